/- 'drawloom/drawloomlaw05.RamNotes' answers true for every input. Conditions: none. -/
import Derived.Test.YtfdeojefcfnogaaFrame
import Derived.Test.YtfdeojefcfnogaaRamN
import Derived.Deep.LoopGhost
namespace Go.Proofs.Ytfdeojefcfnogaa.ramNotes
open Go.ChangeShapes Go.WideShapes Go.ChangeAt Go.RowKit
set_option linter.unusedVariables false

theorem at_mod (p m : Nat) : (((p : Int) - (p : Int) % 64) == ((m * 64 : Nat) : Int)) = (p / 64 == m) := by
  rw [Bool.eq_iff_iff]
  simp
  omega
theorem start_ext {R : RS} {o : Bool} {W : Nat → Bool} (y : Nat → Int) (h : Nt R o W (fun _ => false)) : Nt R o (wEnd o W y 0) (nEnd o W y 0) :=
  h.ext (fun g => by show W g = (W g && !false); simp) (fun n => by show false = (n % 64 == 0 && (W (n / 64) && false)); simp)
theorem told_watches {R : RS} {o : Bool} {W N : Nat → Bool} (h : Nt R o W N) (x : Nat) (hx : x < 8192) : R.watches x = W (x / 64) := by
  unfold RS.watches
  rw [h.place, h.size, h.wt]
  simp [hx]
theorem nt_told {R : RS} {o : Bool} {W N : Nat → Bool} (h : Nt R o W N) : Nt R.told o W (fun _ => false) := ⟨h.pg, h.cl, h.ol, h.wt, fun _ => rfl, h.z⟩
theorem row_nil {w : World} {v : Value} (h : w.ownsRow 0 23 1 v ([] : List Nat).length (wordsL [])) : ∃ a c, v = .slice a 0 c := by
  rcases h.2 with ⟨rfl, _⟩ | ⟨g', cap, cur, rfl, _⟩
  · exact ⟨none, 0, rfl⟩
  · exact ⟨_, _, rfl⟩
theorem row_slice {w : World} {v : Value} {L : List Nat} (h : w.ownsRow 0 23 1 v L.length (wordsL L)) : ∃ a c, v = .slice a L.length c := by
  rcases h.2 with ⟨rfl, e⟩ | ⟨g', cap, cur, rfl, _⟩
  · exact ⟨none, 0, by rw [e]⟩
  · exact ⟨_, _, rfl⟩
theorem info32u : (Try.prog.info? 23).map (fun i => (i.zero, i.size, i.bytes)) = some (some (.int .u32 0), 1, 4) := by kernel_rfl
theorem zero_read {R : RS} {W N : Nat → Bool} (h : Nt R true W N) : R.read 0 1 = 0 := by
  show 0 + R.get (at32 0 0) * 256 ^ 0 = 0
  have e : at32 0 0 = 0 := rfl
  rw [e]
  unfold RS.get
  rw [h.place, h.size, if_pos (by decide), h.z rfl 0 (by decide)]
set_option maxRecDepth 20000 in
set_option maxHeartbeats 16000000 in
theorem walk (w : World) (xa : Option Addr) (xl xc : Nat) (x : Nat → Int) (hxl : xl ≤ 9223372036854775807) (X : IntsIn .u32 w xa xl x) (ya : Option Addr) (yl yc : Nat) (y : Nat → Int) (hyl : yl ≤ 9223372036854775807) (Y : IntsIn .u32 w ya yl y) (o : Bool) :
    Calls Try.prog 5 #[.slice xa xl xc, .slice ya yl yc, .bool o] w fun e w' => e = .returned (.bool true) ∧ Below w.heap.size w w' := by
  have HX := Lib.hid X
  have HY := Lib.hid Y
  have HXL := Lib.hid hxl
  have HYL := Lib.hid hyl
  clear X Y hxl hyl
  cases o
  · go_enter Try.func5, Try.ntmps5
    go_wp2_with fail
    refine (awake_any _).mono ?_
    rintro e w1 ⟨rfl, B1⟩
    have HB := Lib.hid B1
    clear B1
    go_wp2_with fail
    refine (new_any w1 2 (by decide) (by decide)).mono ?_
    rintro e w2 ⟨b, S, rfl, M1, N1, hb1⟩
    have T1 : Hp w1 (fun _ => False) w2 [oMem b (RS.new 2)] := (Hp.zero w1).new hb1 (o := oMem b (RS.new 2)) M1 N1
    clear M1 N1 hb1
    go_wp2_with fail
    have HT := Lib.hid T1
    have HN := Lib.hid (rs_start false)
    rw [if_neg (by decide)] at HN
    clear T1
    generalize RS.new 2 = R0 at *
    go_loopw [10] (fun i wc => ∃ (k : Nat) (R : RS), k ≤ xl ∧ i = .int .i64 k ∧ Nt R false (wat x k) (fun _ => false) ∧ Hp w1 (fun _ => False) wc [oMem b R]) (fun i _ => xl - (intOf i).toNat)
    case atStart => exact ⟨0, R0, by omega, rfl, HN.out, HT.out⟩
    case round =>
      clear HN HT
      rename_i wr
      obtain ⟨k, R, hk, rfl, N, T⟩ := hrel
      have HT := Lib.hid T
      have HN := Lib.hid N
      have HL := Lib.hid (step_below HB.out T.below (Nat.le_refl _))
      clear N T
      by_cases hlt : k < xl
      · have p1 : (0 : Int) ≤ (k : Int) := by omega
        have p2 : (k : Int) < xl := by omega
        have pb : (k : Int) + 1 ≤ 9223372036854775807 := by have := HXL.out; omega
        obtain ⟨g, off, rfl, gl, gc, z0, z1, zm⟩ := ints_at (ints_low HX.out HL.out) k hlt
        have hpz := pz_lt x k
        have HZ := Lib.hid (And.intro zm hpz)
        clear zm hpz
        go_wp2_with fail
        try rw [HZ.out.1]
        refine (HT.out.act 0 rfl (m_watch (pz x k) (by have := HZ.out.2; omega))).mono ?_
        rintro e w5 ⟨rfl, T5⟩
        clear gl gc
        have HT5 := Lib.hid (show Hp w1 (fun _ => False) w5 [oMem b (R.watch (pz x k))] from T5)
        have HL5 := Lib.hid (step_below HB.out T5.below (Nat.le_refl _))
        clear T5
        have gc : w5.cell? ⟨g, off + k, none⟩ = some (.int .u32 (x k)) := by
          rcases HX.out with h | ⟨g', off', e', hl, hc⟩
          · omega
          · cases e'
            exact (World.cell?_of_block (HL5.out.block g hl)).trans (hc k hlt).1
        have gl : g < w5.heap.size := cell_block_lt gc
        go_wp2_with fail
        try rw [HZ.out.1]
        refine (HT5.out.act 0 rfl (m_read (pz x k) (by have := HZ.out.2; omega) 1 (.inl rfl))).mono ?_
        rintro e w6 ⟨rfl, T6⟩
        have HT6 := Lib.hid (show Hp w1 (fun _ => False) w6 [oMem b (R.watch (pz x k))] from T6)
        clear T6 gc gl
        go_wp2_with fail
        go_roundw
        case rel => exact ⟨k + 1, R.watch (pz x k), by omega, by go_num, (HN.out.watch HZ.out.2).ext (fun g => rfl) (fun n => rfl), HT6.out⟩
        case measure => (simp [intOf]) <;> omega
      · have hkx : k = xl := by omega
        subst hkx
        have T1 := HT.out.new (o := oRowC 23 (.slice none 0 0) 0 []) (Below.refl _ _) (A := fun _ => False) ⟨RowC.nil _ _ _, fun j => ⟨fun h => h.elim, fun h => by cases h⟩⟩ (fun j h => h.elim)
        clear HT
        have HT := Lib.hid (show Hp w1 (fun _ => False) wr [oMem b R, oRowC 23 (.slice none 0 0) 0 []] from T1)
        clear T1
        obtain ⟨W, hW⟩ : ∃ W, W = wat x k := ⟨_, rfl⟩
        have HWL := Lib.hid (fun g (h : W g = true) => wat_lt x k g (by rw [← hW]; exact h))
        rw [← hW] at HN
        clear hW
        obtain ⟨p, hp⟩ : ∃ p : Nat → Bool, p = fun g => W g && hitN false y yl g := ⟨_, rfl⟩
        have HP := Lib.hid hp
        clear hp hlt hk
        go_wp2_with fail
        go_loopg [11, 12] 128 (fun n s11 s12 wc => ∃ (m : Nat) (v : Value), v = s11 ∧ s12 = .int .u32 ((m * 64 : Nat) : Int) ∧ m ≤ 128 ∧ 128 - m ≤ n ∧ n ≤ 128 ∧ Hp w1 (fun _ => False) wc [oMem b R, oRowC 23 v (wantL p m).length (wordsL (wantL p m))])
        case atStart => exact ⟨0, _, rfl, rfl, by omega, by omega, by omega, HT.out⟩
        case round =>
          clear HT
          obtain ⟨m, v, rfl, rfl, hm, hgn, hgn2, T⟩ := hrel
          have HT := Lib.hid T
          have HL := Lib.hid (step_below HB.out T.below (Nat.le_refl _))
          clear T
          by_cases hlt : m < 128
          · have p1 : ((m * 64 : Nat) : Int) < 8192 := by omega
            have p0 : (0 : Int) ≤ ((m * 64 : Nat) : Int) := by omega
            obtain ⟨q, hq⟩ : ∃ q : Int, q = ((m * 64 : Nat) : Int) := ⟨_, rfl⟩
            rw [← hq] at p0 p1 ⊢
            have HQ := Lib.hid hq
            clear hq
            go_wp2_with fail
            rw [HQ.out]
            refine (HT.out.act 0 rfl (m_watched (m * 64) (by omega))).mono ?_
            rintro e w5 ⟨rfl, T5⟩
            rw [told_watches HN.out (m * 64) (by omega), Nat.mul_div_cancel _ (by decide), ← HQ.out]
            have HT5 := Lib.hid (show Hp w1 (fun _ => False) w5 [oMem b R, oRowC 23 v (wantL p m).length (wordsL (wantL p m))] from T5)
            have HL5 := Lib.hid (step_below HB.out T5.below (Nat.le_refl _))
            clear T5 HT HL
            go_wp2_with fail
            go_loopg [14, 15] yl (fun n s14 s15 wc => ∃ j : Nat, s14 = .bool (hitN false y j m) ∧ s15 = .int .i64 j ∧ j ≤ yl ∧ yl - j ≤ n ∧ n ≤ yl ∧ w5 = wc)
            case atStart => exact ⟨0, rfl, rfl, by omega, by omega, by omega, rfl⟩
            case round =>
              obtain ⟨j, rfl, rfl, hj, hjn, hjn2, rfl⟩ := hrel
              by_cases hjl : j < yl
              · have p3 : (0 : Int) ≤ (j : Int) := by omega
                have p4 : (j : Int) < yl := by omega
                have pb : (j : Int) + 1 ≤ 9223372036854775807 := by have := HYL.out; omega
                obtain ⟨g, off, rfl, gl, gc, z0, z1, zm⟩ := ints_at (ints_low HY.out HL5.out) j hjl
                have HM := Lib.hid (And.intro (at_mod (pz y j) m) (And.intro zm (pz_lt y j)))
                have HS := Lib.hid (hit_succ false y j m)
                have hz0 : (0 : Int) ≤ (pz y j : Int) := by omega
                have hz1 : ((pz y j : Nat) : Int) < 8192 := by have := pz_lt y j; omega
                obtain ⟨t, ht⟩ : ∃ t : Int, t = ((pz y j : Nat) : Int) := ⟨_, rfl⟩
                rw [← ht] at zm hz0 hz1
                have HTT := Lib.hid ht
                clear ht
                cases hd : (pz y j / 64 == m)
                · have hd2 : ((t - t % 64) == q) = false := by rw [HTT.out, HQ.out, HM.out.1, hd]
                  have HD := Lib.hid hd
                  clear hd
                  go_wp2_with fail
                  try rw [zm]
                  go_wp2_with fail
                  go_roundg (yl - (j + 1))
                  case measure => omega
                  case rel => exact ⟨j + 1, by rw [HS.out, HD.out]; simp, by go_num, by omega, by omega, by omega, rfl⟩
                · have hd2 : ((t - t % 64) == q) = true := by rw [HTT.out, HQ.out, HM.out.1, hd]
                  have HD := Lib.hid hd
                  clear hd
                  go_wp2_with fail
                  try rw [zm]
                  go_wp2_with fail
                  go_roundg (yl - (j + 1))
                  case measure => omega
                  case rel => exact ⟨j + 1, by rw [HS.out, HD.out]; simp, by go_num, by omega, by omega, by omega, rfl⟩
              · have hjy : j = yl := by omega
                have p4 : (yl : Int) ≤ (j : Int) := by omega
                have hge : ¬ (j : Int) < (yl : Int) := by omega
                have HV : Hid (p m = (W m && hitN false y j m)) := Lib.hid (by rw [HP.out, hjy])
                have HU : Hid (wantL p (m + 1) = if p m then wantL p m ++ [m * 64] else wantL p m) := Lib.hid rfl
                clear hjy
                cases hW1 : W m
                · have HW1 := Lib.hid hW1
                  clear hW1
                  go_wp2_with fail
                  go_roundg (128 - (m + 1))
                  case measure => omega
                  case rel => exact ⟨m + 1, v, rfl, by rw [HQ.out]; go_num, by omega, by omega, by omega, by rw [HU.out, if_neg (by rw [HV.out, HW1.out]; simp)]; exact HT5.out⟩
                · cases hH1 : hitN false y j m
                  · have HW1 := Lib.hid (And.intro hW1 hH1)
                    clear hW1 hH1
                    go_wp2_with fail
                    go_roundg (128 - (m + 1))
                    case measure => omega
                    case rel => exact ⟨m + 1, v, rfl, by rw [HQ.out]; go_num, by omega, by omega, by omega, by rw [HU.out, if_neg (by rw [HV.out, HW1.out.1, HW1.out.2]; simp)]; exact HT5.out⟩
                  · have HW1 := Lib.hid (And.intro hW1 hH1)
                    clear hW1 hH1
                    obtain ⟨i0, hi, hz0, hz1, hz2⟩ := info_parts info32u
                    have hlen := want_len p m
                    have HROW := Lib.hid (HT5.out.rowC 1 rfl)
                    have hc1 := Lib.hid (one_newU w5 (m * 64))
                    have HOS := Lib.hid (HT5.out.alloc (.cells #[.int .u32 ((m * 64 : Nat) : Int)] 23))
                    rw [HQ.out]
                    go_wp2_with (at_builtin; (refine wpList_append_c rfl _ _ 35 rfl i0 (.int .u32 0) 1 4 Try.underlying35 hi hz0 hz1 hz2 rfl (by decide) rfl (HROW.out.alloc (.cells #[.int .u32 ((m * 64 : Nat) : Int)] 23)) ⟨w5.heap.size, 0, none⟩ 1 [.int .u32 ((m * 64 : Nat) : Int)] rfl rfl hc1.out (fun u hu => by rw [List.mem_singleton.1 hu]; rfl) (by unfold maxLen; omega) (by omega) ?_); intro a6 c6 w6 hown hgrow hsub)
                    have HV2 := Lib.hid (show p m = true by rw [HV.out, HW1.out.1, HW1.out.2]; rfl)
                    have hL2 : wantL p (m + 1) = wantL p m ++ [m * 64] := by rw [HU.out, if_pos HV2.out]
                    have hown2 : RowC w6 23 1 (.slice a6 ((wantL p m).length + 1) c6) (wantL p (m + 1)).length (wordsL (wantL p (m + 1))) := by
                      rw [hL2, List.length_append, wordsL_snoc]
                      exact hown
                    have T6 := HOS.out.grownC 1 rfl hown2 hgrow hsub
                    have HT6 := Lib.hid (show Hp w1 (fun _ => False) w6 [oMem b R, oRowC 23 (.slice a6 ((wantL p m).length + 1) c6) (wantL p (m + 1)).length (wordsL (wantL p (m + 1)))] from T6)
                    clear hown hown2 hgrow T6 hsub hL2
                    go_wp2_with fail
                    go_roundg (128 - (m + 1))
                    case measure => omega
                    case rel => exact ⟨m + 1, _, rfl, by go_num, by omega, by omega, by omega, HT6.out⟩
          · have hm8 : m = 128 := by omega
            subst hm8
            rw [show ((128 * 64 : Nat) : Int) = 8192 from rfl]
            obtain ⟨a6, c6, rfl⟩ := (HT.out.rowC 1 rfl).len
            clear hlt hm hgn hgn2 HL
            go_wp2_with fail
            go_loopw [17] (fun i wc => ∃ (j : Nat) (R' : RS), j ≤ yl ∧ i = .int .i64 j ∧ Nt R' false (wEnd false W y j) (nEnd false W y j) ∧ Hp w1 (fun _ => False) wc [oMem b R', oRowC 23 (.slice a6 (wantL p 128).length c6) (wantL p 128).length (wordsL (wantL p 128))]) (fun i _ => yl - (intOf i).toNat)
            case atStart => exact ⟨0, R, by omega, rfl, start_ext y HN.out, HT.out⟩
            case round =>
              clear HN HT
              obtain ⟨j, R', hj, rfl, N, T⟩ := hrel
              have HT := Lib.hid T
              have HN := Lib.hid N
              have HL := Lib.hid (step_below HB.out T.below (Nat.le_refl _))
              clear N T
              by_cases hlt : j < yl
              · have p3 : (0 : Int) ≤ (j : Int) := by omega
                have p4 : (j : Int) < yl := by omega
                have pb : (j : Int) + 1 ≤ 9223372036854775807 := by have := HYL.out; omega
                obtain ⟨g, off, rfl, gl, gc, z0, z1, zm⟩ := ints_at (ints_low HY.out HL.out) j hlt
                have HZ := Lib.hid (And.intro zm (pz_lt y j))
                clear zm
                go_wp2_with fail
                try rw [HZ.out.1]
                refine (HT.out.act 0 rfl (m_write (pz y j) 7 (by have := HZ.out.2; omega) (by decide) 1 (.inl rfl))).mono ?_
                rintro e w5 ⟨rfl, T5⟩
                have HT5 := Lib.hid (show Hp w1 (fun _ => False) w5 [oMem b (R'.write (pz y j) 7 1), oRowC 23 (.slice a6 (wantL p 128).length c6) (wantL p 128).length (wordsL (wantL p 128))] from T5)
                clear T5 gl gc
                go_wp2_with fail
                go_roundw
                case rel => exact ⟨j + 1, R'.write (pz y j) 7 1, by omega, by go_num, (HN.out.write HZ.out.2).ext (fun g => wEnd_step g) (fun n => nEnd_step n), HT5.out⟩
                case measure => (simp [intOf]) <;> omega
              · have hjy : j = yl := by omega
                subst hjy
                have HPL : Hid (∀ x, x ∈ wantL p 128 ↔ nEnd false W y j x = true) := Lib.hid fun x => by rw [HP.out]; exact (nEnd_want HWL.out).symm
                have HPW : Hid (∀ x, x ∈ wantL p 128 → wEnd false W y j (x / 64) = false ∧ x < 8192) := Lib.hid fun x hx => by rw [HP.out] at hx; exact wEnd_want hx
                obtain ⟨Q, hQ⟩ : ∃ Q, Q = wantL p 128 := ⟨_, rfl⟩
                have HQU := Lib.hid (show Q.Pairwise (· < ·) by rw [hQ]; exact want_up p 128)
                have hQ128 : Q.length ≤ 128 := by rw [hQ]; exact want_len p 128
                rw [← hQ] at HPL HPW HT ⊢
                have HQN := Lib.hid hQ128
                clear hQ hlt hj hQ128
                go_wp2_with fail
                refine (HT.out.told 0 rfl (HN.out.notedLen (fun n h => nEnd_lt HWL.out h)) (fun x hx => by have := nEnd_lt HWL.out ((HN.out.nt x).symm.trans hx); omega)).mono ?_
                rintro e w5 ⟨v2, L2, rfl, h1, h2, T5⟩
                have hL2 : L2 = Q := sorted_ext h2 HQU.out fun x => (h1 x).trans (by rw [HN.out.nt]; exact (HPL.out x).symm)
                subst hL2
                have HT5 := Lib.hid (show Hp w1 (fun _ => False) w5 [oMem b R'.told, oRowC 23 (.slice a6 L2.length c6) L2.length (wordsL L2), oRow 23 v2 L2.length (wordsL L2)] from T5)
                obtain ⟨a7, c7, rfl⟩ := row_slice (T5.row 2 rfl)
                clear T5 h1 h2 HT HL
                go_wp2_with fail
                refine (same32_any (nums32_of (HT5.out.row 2 rfl)) (nums32_ofC (HT5.out.rowC 1 rfl)) (by have := HQN.out; omega)).mono ?_
                rintro e w6 ⟨rfl, n6, rfl⟩
                have HT6 := Lib.hid (HT5.out.drewN n6)
                clear HT5
                generalize w5.drewN n6 = w6 at *
                go_wp2_with fail
                refine (HT6.out.told 0 rfl (fun L hn hL => by
                  cases L with
                  | nil => exact Nat.zero_le _
                  | cons x L => have := hL x (by simp); cases this) (fun x hx => by cases hx)).mono ?_
                rintro e w7 ⟨v3, L3, rfl, h1, h2, T7⟩
                have hL3 : L3 = [] := by
                  cases L3 with
                  | nil => rfl
                  | cons x L => have := (h1 x).1 (by simp); cases this
                subst hL3
                have HT7 := Lib.hid (show Hp w1 (fun _ => False) w7 [oMem b R'.told, oRowC 23 (.slice a6 L2.length c6) L2.length (wordsL L2), oRow 23 (.slice a7 L2.length c7) L2.length (wordsL L2), oRow 23 v3 ([] : List Nat).length (wordsL [])] from T7)
                obtain ⟨a8, c8, rfl⟩ := row_nil (T7.row 3 rfl)
                clear T7 h1 h2 HT6
                go_wp2_with fail
                go_loopw [19] (fun i wc => ∃ m : Nat, m ≤ L2.length ∧ i = .int .i64 m ∧ Hp w1 (fun _ => False) wc [oMem b R'.told, oRowC 23 (.slice a6 L2.length c6) L2.length (wordsL L2), oRow 23 (.slice a7 L2.length c7) L2.length (wordsL L2), oRow 23 (.slice a8 0 c8) ([] : List Nat).length (wordsL [])]) (fun i _ => L2.length - (intOf i).toNat)
                case atStart => exact ⟨0, by omega, rfl, HT7.out⟩
                case round =>
                  clear HT7
                  obtain ⟨m, hm, rfl, T⟩ := hrel
                  have HT := Lib.hid T
                  have HL := Lib.hid (step_below HB.out T.below (Nat.le_refl _))
                  clear T
                  by_cases hlt : m < L2.length
                  · have p3 : (0 : Int) ≤ (m : Int) := by omega
                    have p4 : (m : Int) < (L2.length : Int) := by omega
                    have pb : (m : Int) + 1 ≤ 9223372036854775807 := by have := HQN.out; omega
                    obtain ⟨a9, c9, he, hc⟩ := nums32_of (HT.out.row 2 rfl)
                    cases he
                    have hne : L2 ≠ [] := fun e => by rw [e] at hlt; exact absurd hlt (Nat.not_lt_zero _)
                    obtain ⟨g, off, rfl, gl, hc⟩ := hc.resolve_left hne
                    have gc := hc m hlt
                    obtain ⟨q, hq⟩ : ∃ q, q = L2.getD m 0 := ⟨_, rfl⟩
                    have hqm : q ∈ L2 := by rw [hq, List.getD_eq_getElem?_getD, List.getElem?_eq_getElem hlt]; exact List.getElem_mem hlt
                    obtain ⟨hq1, hq2⟩ := HPW.out q hqm
                    rw [← hq] at gc
                    have HW2 : Hid (R'.told.watches q = false) := Lib.hid (by rw [told_watches (nt_told HN.out) q hq2]; exact hq1)
                    clear hc hne hq hqm hq1
                    go_wp2_with fail
                    refine (HT.out.act 0 rfl (m_watched q (by omega))).mono ?_
                    rintro e w8 ⟨rfl, T8⟩
                    rw [HW2.out]
                    have HT8 := Lib.hid (show Hp w1 (fun _ => False) w8 [oMem b R'.told, oRowC 23 (.slice a6 L2.length c6) L2.length (wordsL L2), oRow 23 (.slice (some ⟨g, off, none⟩) L2.length c7) L2.length (wordsL L2), oRow 23 (.slice a8 0 c8) ([] : List Nat).length (wordsL [])] from T8)
                    clear T8 gc gl
                    go_wp2_with fail
                    go_roundw
                    case rel => exact ⟨m + 1, by omega, by go_num, HT8.out⟩
                    case measure => (simp [intOf]) <;> omega
                  · have hmn : m = L2.length := by omega
                    subst hmn
                    clear hlt hm
                    go_wp2_with fail
                    refine (HT.out.act 0 rfl (m_read 0 (by decide) 1 (.inl rfl))).mono ?_
                    rintro e w8 ⟨rfl, T8⟩
                    have HE := Lib.hid (step_below HB.out T8.below (Nat.le_refl _))
                    clear T8
                    skip
                    go_wp2_with fail
                    go_ret
                    exact ⟨rfl, HE.out⟩
  · go_enter Try.func5, Try.ntmps5
    go_wp2_with fail
    refine (awake_any _).mono ?_
    rintro e w1 ⟨rfl, B1⟩
    have HB := Lib.hid B1
    clear B1
    go_wp2_with fail
    refine (new_any w1 2 (by decide) (by decide)).mono ?_
    rintro e w2 ⟨b, S, rfl, M1, N1, hb1⟩
    have T1 : Hp w1 (fun _ => False) w2 [oMem b (RS.new 2)] := (Hp.zero w1).new hb1 (o := oMem b (RS.new 2)) M1 N1
    clear M1 N1 hb1
    go_wp2_with fail
    refine (T1.act 0 rfl (m_rom 0 true)).mono ?_
    rintro e w3 ⟨rfl, T2⟩
    have HT := Lib.hid (show Hp w1 (fun _ => False) w3 [oMem b ((RS.new 2).romAt 0 true)] from T2)
    have HN := Lib.hid (rs_start true)
    rw [if_pos rfl] at HN
    clear T1 T2
    generalize (RS.new 2).romAt 0 true = R0 at *
    go_wp2_with fail
    go_loopw [10] (fun i wc => ∃ (k : Nat) (R : RS), k ≤ xl ∧ i = .int .i64 k ∧ Nt R true (wat x k) (fun _ => false) ∧ Hp w1 (fun _ => False) wc [oMem b R]) (fun i _ => xl - (intOf i).toNat)
    case atStart => exact ⟨0, R0, by omega, rfl, HN.out, HT.out⟩
    case round =>
      clear HN HT
      rename_i wr
      obtain ⟨k, R, hk, rfl, N, T⟩ := hrel
      have HT := Lib.hid T
      have HN := Lib.hid N
      have HL := Lib.hid (step_below HB.out T.below (Nat.le_refl _))
      clear N T
      by_cases hlt : k < xl
      · have p1 : (0 : Int) ≤ (k : Int) := by omega
        have p2 : (k : Int) < xl := by omega
        have pb : (k : Int) + 1 ≤ 9223372036854775807 := by have := HXL.out; omega
        obtain ⟨g, off, rfl, gl, gc, z0, z1, zm⟩ := ints_at (ints_low HX.out HL.out) k hlt
        have hpz := pz_lt x k
        have HZ := Lib.hid (And.intro zm hpz)
        clear zm hpz
        go_wp2_with fail
        try rw [HZ.out.1]
        refine (HT.out.act 0 rfl (m_watch (pz x k) (by have := HZ.out.2; omega))).mono ?_
        rintro e w5 ⟨rfl, T5⟩
        clear gl gc
        have HT5 := Lib.hid (show Hp w1 (fun _ => False) w5 [oMem b (R.watch (pz x k))] from T5)
        have HL5 := Lib.hid (step_below HB.out T5.below (Nat.le_refl _))
        clear T5
        have gc : w5.cell? ⟨g, off + k, none⟩ = some (.int .u32 (x k)) := by
          rcases HX.out with h | ⟨g', off', e', hl, hc⟩
          · omega
          · cases e'
            exact (World.cell?_of_block (HL5.out.block g hl)).trans (hc k hlt).1
        have gl : g < w5.heap.size := cell_block_lt gc
        go_wp2_with fail
        try rw [HZ.out.1]
        refine (HT5.out.act 0 rfl (m_read (pz x k) (by have := HZ.out.2; omega) 1 (.inl rfl))).mono ?_
        rintro e w6 ⟨rfl, T6⟩
        have HT6 := Lib.hid (show Hp w1 (fun _ => False) w6 [oMem b (R.watch (pz x k))] from T6)
        clear T6 gc gl
        go_wp2_with fail
        go_roundw
        case rel => exact ⟨k + 1, R.watch (pz x k), by omega, by go_num, (HN.out.watch HZ.out.2).ext (fun g => rfl) (fun n => rfl), HT6.out⟩
        case measure => (simp [intOf]) <;> omega
      · have hkx : k = xl := by omega
        subst hkx
        have T1 := HT.out.new (o := oRowC 23 (.slice none 0 0) 0 []) (Below.refl _ _) (A := fun _ => False) ⟨RowC.nil _ _ _, fun j => ⟨fun h => h.elim, fun h => by cases h⟩⟩ (fun j h => h.elim)
        clear HT
        have HT := Lib.hid (show Hp w1 (fun _ => False) wr [oMem b R, oRowC 23 (.slice none 0 0) 0 []] from T1)
        clear T1
        obtain ⟨W, hW⟩ : ∃ W, W = wat x k := ⟨_, rfl⟩
        have HWL := Lib.hid (fun g (h : W g = true) => wat_lt x k g (by rw [← hW]; exact h))
        rw [← hW] at HN
        clear hW
        obtain ⟨p, hp⟩ : ∃ p : Nat → Bool, p = fun g => W g && hitN true y yl g := ⟨_, rfl⟩
        have HP := Lib.hid hp
        clear hp hlt hk
        go_wp2_with fail
        go_loopg [11, 12] 128 (fun n s11 s12 wc => ∃ (m : Nat) (v : Value), v = s11 ∧ s12 = .int .u32 ((m * 64 : Nat) : Int) ∧ m ≤ 128 ∧ 128 - m ≤ n ∧ n ≤ 128 ∧ Hp w1 (fun _ => False) wc [oMem b R, oRowC 23 v (wantL p m).length (wordsL (wantL p m))])
        case atStart => exact ⟨0, _, rfl, rfl, by omega, by omega, by omega, HT.out⟩
        case round =>
          clear HT
          obtain ⟨m, v, rfl, rfl, hm, hgn, hgn2, T⟩ := hrel
          have HT := Lib.hid T
          have HL := Lib.hid (step_below HB.out T.below (Nat.le_refl _))
          clear T
          by_cases hlt : m < 128
          · have p1 : ((m * 64 : Nat) : Int) < 8192 := by omega
            have p0 : (0 : Int) ≤ ((m * 64 : Nat) : Int) := by omega
            obtain ⟨q, hq⟩ : ∃ q : Int, q = ((m * 64 : Nat) : Int) := ⟨_, rfl⟩
            rw [← hq] at p0 p1 ⊢
            have HQ := Lib.hid hq
            clear hq
            go_wp2_with fail
            rw [HQ.out]
            refine (HT.out.act 0 rfl (m_watched (m * 64) (by omega))).mono ?_
            rintro e w5 ⟨rfl, T5⟩
            rw [told_watches HN.out (m * 64) (by omega), Nat.mul_div_cancel _ (by decide), ← HQ.out]
            have HT5 := Lib.hid (show Hp w1 (fun _ => False) w5 [oMem b R, oRowC 23 v (wantL p m).length (wordsL (wantL p m))] from T5)
            have HL5 := Lib.hid (step_below HB.out T5.below (Nat.le_refl _))
            clear T5 HT HL
            go_wp2_with fail
            go_loopg [14, 15] yl (fun n s14 s15 wc => ∃ j : Nat, s14 = .bool (hitN true y j m) ∧ s15 = .int .i64 j ∧ j ≤ yl ∧ yl - j ≤ n ∧ n ≤ yl ∧ w5 = wc)
            case atStart => exact ⟨0, rfl, rfl, by omega, by omega, by omega, rfl⟩
            case round =>
              obtain ⟨j, rfl, rfl, hj, hjn, hjn2, rfl⟩ := hrel
              by_cases hjl : j < yl
              · have p3 : (0 : Int) ≤ (j : Int) := by omega
                have p4 : (j : Int) < yl := by omega
                have pb : (j : Int) + 1 ≤ 9223372036854775807 := by have := HYL.out; omega
                obtain ⟨g, off, rfl, gl, gc, z0, z1, zm⟩ := ints_at (ints_low HY.out HL5.out) j hjl
                have HM := Lib.hid (And.intro (at_mod (pz y j) m) (And.intro zm (pz_lt y j)))
                have HS := Lib.hid (hit_succ true y j m)
                have hz0 : (0 : Int) ≤ (pz y j : Int) := by omega
                have hz1 : ((pz y j : Nat) : Int) < 8192 := by have := pz_lt y j; omega
                obtain ⟨t, ht⟩ : ∃ t : Int, t = ((pz y j : Nat) : Int) := ⟨_, rfl⟩
                rw [← ht] at zm hz0 hz1
                have HTT := Lib.hid ht
                clear ht
                cases hd : (pz y j / 64 == m)
                · have hd2 : ((t - t % 64) == q) = false := by rw [HTT.out, HQ.out, HM.out.1, hd]
                  have HD := Lib.hid hd
                  clear hd
                  go_wp2_with fail
                  try rw [zm]
                  go_wp2_with fail
                  go_roundg (yl - (j + 1))
                  case measure => omega
                  case rel => exact ⟨j + 1, by rw [HS.out, HD.out]; simp, by go_num, by omega, by omega, by omega, rfl⟩
                · have hd2 : ((t - t % 64) == q) = true := by rw [HTT.out, HQ.out, HM.out.1, hd]
                  have HD := Lib.hid hd
                  clear hd
                  by_cases h4 : 4096 ≤ t
                  · have HG : Hid (decide (4096 ≤ pz y j) = true) := Lib.hid (by have := HTT.out; simp; omega)
                    go_wp2_with fail
                    try rw [zm]
                    go_wp2_with fail
                    go_roundg (yl - (j + 1))
                    case measure => omega
                    case rel => exact ⟨j + 1, by rw [HS.out, HD.out, HG.out]; simp, by go_num, by omega, by omega, by omega, rfl⟩
                  · have HG : Hid (decide (4096 ≤ pz y j) = false) := Lib.hid (by have := HTT.out; simp; omega)
                    have h5 : t < 4096 := by omega
                    go_wp2_with fail
                    try rw [zm]
                    go_wp2_with fail
                    go_roundg (yl - (j + 1))
                    case measure => omega
                    case rel => exact ⟨j + 1, by rw [HS.out, HD.out, HG.out]; simp, by go_num, by omega, by omega, by omega, rfl⟩
              · have hjy : j = yl := by omega
                have p4 : (yl : Int) ≤ (j : Int) := by omega
                have hge : ¬ (j : Int) < (yl : Int) := by omega
                have HV : Hid (p m = (W m && hitN true y j m)) := Lib.hid (by rw [HP.out, hjy])
                have HU : Hid (wantL p (m + 1) = if p m then wantL p m ++ [m * 64] else wantL p m) := Lib.hid rfl
                clear hjy
                cases hW1 : W m
                · have HW1 := Lib.hid hW1
                  clear hW1
                  go_wp2_with fail
                  go_roundg (128 - (m + 1))
                  case measure => omega
                  case rel => exact ⟨m + 1, v, rfl, by rw [HQ.out]; go_num, by omega, by omega, by omega, by rw [HU.out, if_neg (by rw [HV.out, HW1.out]; simp)]; exact HT5.out⟩
                · cases hH1 : hitN true y j m
                  · have HW1 := Lib.hid (And.intro hW1 hH1)
                    clear hW1 hH1
                    go_wp2_with fail
                    go_roundg (128 - (m + 1))
                    case measure => omega
                    case rel => exact ⟨m + 1, v, rfl, by rw [HQ.out]; go_num, by omega, by omega, by omega, by rw [HU.out, if_neg (by rw [HV.out, HW1.out.1, HW1.out.2]; simp)]; exact HT5.out⟩
                  · have HW1 := Lib.hid (And.intro hW1 hH1)
                    clear hW1 hH1
                    obtain ⟨i0, hi, hz0, hz1, hz2⟩ := info_parts info32u
                    have hlen := want_len p m
                    have HROW := Lib.hid (HT5.out.rowC 1 rfl)
                    have hc1 := Lib.hid (one_newU w5 (m * 64))
                    have HOS := Lib.hid (HT5.out.alloc (.cells #[.int .u32 ((m * 64 : Nat) : Int)] 23))
                    rw [HQ.out]
                    go_wp2_with (at_builtin; (refine wpList_append_c rfl _ _ 35 rfl i0 (.int .u32 0) 1 4 Try.underlying35 hi hz0 hz1 hz2 rfl (by decide) rfl (HROW.out.alloc (.cells #[.int .u32 ((m * 64 : Nat) : Int)] 23)) ⟨w5.heap.size, 0, none⟩ 1 [.int .u32 ((m * 64 : Nat) : Int)] rfl rfl hc1.out (fun u hu => by rw [List.mem_singleton.1 hu]; rfl) (by unfold maxLen; omega) (by omega) ?_); intro a6 c6 w6 hown hgrow hsub)
                    have HV2 := Lib.hid (show p m = true by rw [HV.out, HW1.out.1, HW1.out.2]; rfl)
                    have hL2 : wantL p (m + 1) = wantL p m ++ [m * 64] := by rw [HU.out, if_pos HV2.out]
                    have hown2 : RowC w6 23 1 (.slice a6 ((wantL p m).length + 1) c6) (wantL p (m + 1)).length (wordsL (wantL p (m + 1))) := by
                      rw [hL2, List.length_append, wordsL_snoc]
                      exact hown
                    have T6 := HOS.out.grownC 1 rfl hown2 hgrow hsub
                    have HT6 := Lib.hid (show Hp w1 (fun _ => False) w6 [oMem b R, oRowC 23 (.slice a6 ((wantL p m).length + 1) c6) (wantL p (m + 1)).length (wordsL (wantL p (m + 1)))] from T6)
                    clear hown hown2 hgrow T6 hsub hL2
                    go_wp2_with fail
                    go_roundg (128 - (m + 1))
                    case measure => omega
                    case rel => exact ⟨m + 1, _, rfl, by go_num, by omega, by omega, by omega, HT6.out⟩
          · have hm8 : m = 128 := by omega
            subst hm8
            rw [show ((128 * 64 : Nat) : Int) = 8192 from rfl]
            obtain ⟨a6, c6, rfl⟩ := (HT.out.rowC 1 rfl).len
            clear hlt hm hgn hgn2 HL
            go_wp2_with fail
            go_loopw [17] (fun i wc => ∃ (j : Nat) (R' : RS), j ≤ yl ∧ i = .int .i64 j ∧ Nt R' true (wEnd true W y j) (nEnd true W y j) ∧ Hp w1 (fun _ => False) wc [oMem b R', oRowC 23 (.slice a6 (wantL p 128).length c6) (wantL p 128).length (wordsL (wantL p 128))]) (fun i _ => yl - (intOf i).toNat)
            case atStart => exact ⟨0, R, by omega, rfl, start_ext y HN.out, HT.out⟩
            case round =>
              clear HN HT
              obtain ⟨j, R', hj, rfl, N, T⟩ := hrel
              have HT := Lib.hid T
              have HN := Lib.hid N
              have HL := Lib.hid (step_below HB.out T.below (Nat.le_refl _))
              clear N T
              by_cases hlt : j < yl
              · have p3 : (0 : Int) ≤ (j : Int) := by omega
                have p4 : (j : Int) < yl := by omega
                have pb : (j : Int) + 1 ≤ 9223372036854775807 := by have := HYL.out; omega
                obtain ⟨g, off, rfl, gl, gc, z0, z1, zm⟩ := ints_at (ints_low HY.out HL.out) j hlt
                have HZ := Lib.hid (And.intro zm (pz_lt y j))
                clear zm
                go_wp2_with fail
                try rw [HZ.out.1]
                refine (HT.out.act 0 rfl (m_write (pz y j) 7 (by have := HZ.out.2; omega) (by decide) 1 (.inl rfl))).mono ?_
                rintro e w5 ⟨rfl, T5⟩
                have HT5 := Lib.hid (show Hp w1 (fun _ => False) w5 [oMem b (R'.write (pz y j) 7 1), oRowC 23 (.slice a6 (wantL p 128).length c6) (wantL p 128).length (wordsL (wantL p 128))] from T5)
                clear T5 gl gc
                go_wp2_with fail
                go_roundw
                case rel => exact ⟨j + 1, R'.write (pz y j) 7 1, by omega, by go_num, (HN.out.write HZ.out.2).ext (fun g => wEnd_step g) (fun n => nEnd_step n), HT5.out⟩
                case measure => (simp [intOf]) <;> omega
              · have hjy : j = yl := by omega
                subst hjy
                have HPL : Hid (∀ x, x ∈ wantL p 128 ↔ nEnd true W y j x = true) := Lib.hid fun x => by rw [HP.out]; exact (nEnd_want HWL.out).symm
                have HPW : Hid (∀ x, x ∈ wantL p 128 → wEnd true W y j (x / 64) = false ∧ x < 8192) := Lib.hid fun x hx => by rw [HP.out] at hx; exact wEnd_want hx
                obtain ⟨Q, hQ⟩ : ∃ Q, Q = wantL p 128 := ⟨_, rfl⟩
                have HQU := Lib.hid (show Q.Pairwise (· < ·) by rw [hQ]; exact want_up p 128)
                have hQ128 : Q.length ≤ 128 := by rw [hQ]; exact want_len p 128
                rw [← hQ] at HPL HPW HT ⊢
                have HQN := Lib.hid hQ128
                clear hQ hlt hj hQ128
                go_wp2_with fail
                refine (HT.out.told 0 rfl (HN.out.notedLen (fun n h => nEnd_lt HWL.out h)) (fun x hx => by have := nEnd_lt HWL.out ((HN.out.nt x).symm.trans hx); omega)).mono ?_
                rintro e w5 ⟨v2, L2, rfl, h1, h2, T5⟩
                have hL2 : L2 = Q := sorted_ext h2 HQU.out fun x => (h1 x).trans (by rw [HN.out.nt]; exact (HPL.out x).symm)
                subst hL2
                have HT5 := Lib.hid (show Hp w1 (fun _ => False) w5 [oMem b R'.told, oRowC 23 (.slice a6 L2.length c6) L2.length (wordsL L2), oRow 23 v2 L2.length (wordsL L2)] from T5)
                obtain ⟨a7, c7, rfl⟩ := row_slice (T5.row 2 rfl)
                clear T5 h1 h2 HT HL
                go_wp2_with fail
                refine (same32_any (nums32_of (HT5.out.row 2 rfl)) (nums32_ofC (HT5.out.rowC 1 rfl)) (by have := HQN.out; omega)).mono ?_
                rintro e w6 ⟨rfl, n6, rfl⟩
                have HT6 := Lib.hid (HT5.out.drewN n6)
                clear HT5
                generalize w5.drewN n6 = w6 at *
                go_wp2_with fail
                refine (HT6.out.told 0 rfl (fun L hn hL => by
                  cases L with
                  | nil => exact Nat.zero_le _
                  | cons x L => have := hL x (by simp); cases this) (fun x hx => by cases hx)).mono ?_
                rintro e w7 ⟨v3, L3, rfl, h1, h2, T7⟩
                have hL3 : L3 = [] := by
                  cases L3 with
                  | nil => rfl
                  | cons x L => have := (h1 x).1 (by simp); cases this
                subst hL3
                have HT7 := Lib.hid (show Hp w1 (fun _ => False) w7 [oMem b R'.told, oRowC 23 (.slice a6 L2.length c6) L2.length (wordsL L2), oRow 23 (.slice a7 L2.length c7) L2.length (wordsL L2), oRow 23 v3 ([] : List Nat).length (wordsL [])] from T7)
                obtain ⟨a8, c8, rfl⟩ := row_nil (T7.row 3 rfl)
                clear T7 h1 h2 HT6
                go_wp2_with fail
                go_loopw [19] (fun i wc => ∃ m : Nat, m ≤ L2.length ∧ i = .int .i64 m ∧ Hp w1 (fun _ => False) wc [oMem b R'.told, oRowC 23 (.slice a6 L2.length c6) L2.length (wordsL L2), oRow 23 (.slice a7 L2.length c7) L2.length (wordsL L2), oRow 23 (.slice a8 0 c8) ([] : List Nat).length (wordsL [])]) (fun i _ => L2.length - (intOf i).toNat)
                case atStart => exact ⟨0, by omega, rfl, HT7.out⟩
                case round =>
                  clear HT7
                  obtain ⟨m, hm, rfl, T⟩ := hrel
                  have HT := Lib.hid T
                  have HL := Lib.hid (step_below HB.out T.below (Nat.le_refl _))
                  clear T
                  by_cases hlt : m < L2.length
                  · have p3 : (0 : Int) ≤ (m : Int) := by omega
                    have p4 : (m : Int) < (L2.length : Int) := by omega
                    have pb : (m : Int) + 1 ≤ 9223372036854775807 := by have := HQN.out; omega
                    obtain ⟨a9, c9, he, hc⟩ := nums32_of (HT.out.row 2 rfl)
                    cases he
                    have hne : L2 ≠ [] := fun e => by rw [e] at hlt; exact absurd hlt (Nat.not_lt_zero _)
                    obtain ⟨g, off, rfl, gl, hc⟩ := hc.resolve_left hne
                    have gc := hc m hlt
                    obtain ⟨q, hq⟩ : ∃ q, q = L2.getD m 0 := ⟨_, rfl⟩
                    have hqm : q ∈ L2 := by rw [hq, List.getD_eq_getElem?_getD, List.getElem?_eq_getElem hlt]; exact List.getElem_mem hlt
                    obtain ⟨hq1, hq2⟩ := HPW.out q hqm
                    rw [← hq] at gc
                    have HW2 : Hid (R'.told.watches q = false) := Lib.hid (by rw [told_watches (nt_told HN.out) q hq2]; exact hq1)
                    clear hc hne hq hqm hq1
                    go_wp2_with fail
                    refine (HT.out.act 0 rfl (m_watched q (by omega))).mono ?_
                    rintro e w8 ⟨rfl, T8⟩
                    rw [HW2.out]
                    have HT8 := Lib.hid (show Hp w1 (fun _ => False) w8 [oMem b R'.told, oRowC 23 (.slice a6 L2.length c6) L2.length (wordsL L2), oRow 23 (.slice (some ⟨g, off, none⟩) L2.length c7) L2.length (wordsL L2), oRow 23 (.slice a8 0 c8) ([] : List Nat).length (wordsL [])] from T8)
                    clear T8 gc gl
                    go_wp2_with fail
                    go_roundw
                    case rel => exact ⟨m + 1, by omega, by go_num, HT8.out⟩
                    case measure => (simp [intOf]) <;> omega
                  · have hmn : m = L2.length := by omega
                    subst hmn
                    clear hlt hm
                    go_wp2_with fail
                    refine (HT.out.act 0 rfl (m_read 0 (by decide) 1 (.inl rfl))).mono ?_
                    rintro e w8 ⟨rfl, T8⟩
                    have HE := Lib.hid (step_below HB.out T8.below (Nat.le_refl _))
                    clear T8
                    rw [zero_read (nt_told HN.out)]
                    go_wp2_with fail
                    go_ret
                    exact ⟨rfl, HE.out⟩

set_option maxRecDepth 100000 in
theorem lifted (os : Os) (started : os.Started) (H : Type) (enc : TypeId × Value → H) :
    ReturnsInHanded {} Try.checked os 5 .any (Rows.ramNotesSpec.pre6 enc Try.prog Try.f5 Rows.ramNotesRow.domain false) (Rows.ramNotesSpec.post enc Try.prog Try.f5 false true false false) := by
  refine returnsInHanded_of_change (C := Try.checked) own started (by kernel_rfl) Try.func5
    (ChangeSpec.witness6 (enc := enc) (C := Try.checked) false ⟨#[], #[.slice none 0 0, .slice none 0 0, .bool false], []⟩ 8 (by kernel_rfl) (by kernel_rfl) (by kernel_rfl) (by kernel_rfl)) ?_
  intro W base args ds gs before hval0 hW hcnd _
  have hval : ∀ (j : Nat) t v, Try.f5.params[j]? = some t → args[j]? = some v → Value.okWide Try.prog W .any base t v := hval0
  have hW' := hW
  obtain ⟨p, q, hA0, hV, rfl, hfz, hnd⟩ := hW
  have hA : DataW.TrodAll enc Try.prog W 0 (fun _ => true) true Try.f5.params.toList args.toList ds p := hA0
  rw [Try.params5] at hA hval
  obtain ⟨v0, vs0, d0, ds0, p0, q0, hargs, rfl, rfl, h0, r0⟩ := trodAll_cons hA
  obtain ⟨v1, vs1, d1, ds1, p1, q1, rfl, rfl, rfl, h1, r1⟩ := trodAll_cons r0
  obtain ⟨v2, vs2, d2, ds2, p2, q2, rfl, rfl, rfl, h2, r2⟩ := trodAll_cons r1
  obtain ⟨rfl, rfl, rfl⟩ := trodAll_nil r2
  obtain rfl : args = #[v0, v1, v2] := by cases args; simp_all
  clear hA0 hval0
  obtain ⟨a0, n0, c0, z0, rfl, m0, J0⟩ := arg_ints Try.underlying35 Try.underlying23 (by kernel_rfl) (hval 0 35 v0 rfl rfl) h0
  obtain ⟨a1, n1, c1, z1, rfl, m1, J1⟩ := arg_ints Try.underlying35 Try.underlying23 (by kernel_rfl) (hval 1 35 v1 rfl rfl) h1
  obtain ⟨a2, rfl⟩ := arg_bool Try.underlying4 (hval 2 4 v2 rfl rfl)
  exact law_end (by kernel_rfl) hW' rfl (by kernel_rfl) Try.underlying4 rfl rfl (walk W a0 n0 c0 z0 m0 J0 a1 n1 c1 z1 m1 J1 a2)

theorem proved : Rows.RamNotesSaid :=
  OpenClaim.holds_of_wide 5 Try.f5 rfl rfl rfl rfl rfl rfl rfl ⟨rfl, rfl, rfl, rfl, rfl⟩ rfl rfl rfl rfl rfl (by kernel_rfl) Try.func5 (by kernel_rfl)
    (of_decide_eq_true (by kernel_rfl)) (by unfold Func.isWrapper; first | (rw [if_pos (by decide +kernel)]; kernel_rfl) | (rw [if_neg (by decide +kernel)]; exact ⟨rfl, rfl⟩))
    (fun os started H enc _ => lifted os started H enc)
#print axioms proved
end Go.Proofs.Ytfdeojefcfnogaa.ramNotes
