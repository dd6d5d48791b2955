/- 'drawloom/drawloomlaw14.IdeBack' answers true for every input. Conditions: none. -/
import Derived.Test.YtebhnfoehgpilaaFrame
import Derived.Test.YtebhnfoehgpilaaIdeU
import Derived.Deep.CutRange
import Derived.Deep.RegionWith
namespace Go.Proofs.Ytebhnfoehgpilaa.ideBack
open Go.ChangeShapes Go.WideShapes Go.ChangeAt Go.RowKit
set_option linter.unusedVariables false

/-- The bytes that are put. -/
def fby (z : Nat → Int) (bl : Nat) : Nat → Nat := fun j => (z (j % bl)).toNat
theorem fby_lt {w : World} {ba : Option Addr} {bl : Nat} {z : Nat → Int} (J : IntsIn .u8 w ba bl z) (h : 0 < bl) (j : Nat) : fby z bl j < 256 := by
  rcases J with e | ⟨b, off, _, _, hc⟩
  · omega
  · have := (hc (j % bl) (Nat.mod_lt _ h)).2
    unfold fby
    have e1 : IntKind.u8.min = 0 := rfl
    have e2 : IntKind.u8.max = 255 := rfl
    omega
theorem fby_cell {w : World} {ba : Option Addr} {bl : Nat} {z : Nat → Int} (J : IntsIn .u8 w ba bl z) (h : 0 < bl) : ∃ b off, ba = some ⟨b, off, none⟩ ∧ b < w.heap.size ∧ ∀ j, w.cell? ⟨b, off + j % bl, none⟩ = some (.int .u8 (fby z bl j : Nat)) := by
  rcases J with e | ⟨b, off, hb, hl, hc⟩
  · omega
  · refine ⟨b, off, hb, hl, fun j => ?_⟩
    obtain ⟨h1, h2, h3⟩ := hc (j % bl) (Nat.mod_lt _ h)
    rw [h1]
    unfold fby
    have e1 : IntKind.u8.min = 0 := rfl
    congr 2
    omega
theorem stage_gge {w wc : World} {b B g m c n r : Nat} {d f : Nat → Nat} {K L : Nat} (h : Stage w wc b B g m c n r d f K L) : w.heap.size ≤ g := by
  obtain ⟨S, wd, A, Rw, hB, Bl, W⟩ := h
  exact Nat.le_trans hB (row_base2 Rw).1
theorem written_f {w0 w : World} {b g r : Nat} {D : Dk} {o : Obj} (h : AtF w0 w b D g o) (hl : D.log = [r]) :
    Calls Try.prog 17 #[.pointer (some ⟨b, 0, none⟩)] w fun e w' => ∃ v, e = .returned v ∧ AtF w0 w' b D.quit g o ∧ Nums w' v [r] := by
  obtain ⟨ds, lv, H, R, N, O, B⟩ := h
  refine (written_in H).mono ?_
  rintro e w1 ⟨rfl, H1, K⟩
  have hlg := H.log
  have d2 := H.d2
  have hr : w1.ownsRow 0 3 1 lv D.log.length (D.log.map fun x => .int .i64 (x : Nat)) := row_of_heap hlg fun k hk => K.block k (World.ownsRow.lt hlg k hk).2 fun e => d2 (by rw [hk, e])
  obtain ⟨a, c, rfl⟩ := row_len hlg
  rw [hl] at hr
  refine ⟨_, rfl, ⟨ds, _, H1, R, fun k hk => ?_, heap_keeps K (fun e => (N b (.inl rfl)).2 e.symm) O, Keeps.toBelow B K B.size fun i hi => ?_⟩, by rw [hl]; exact nums_row hr rfl⟩
  · rcases hk with hk | hk | hk
    · exact N k (.inl hk)
    · exact N k (.inr (.inl hk))
    · cases hk
  · exact (N i (.inl hi)).1
theorem nums_obj {w : World} {g x : Nat} {T : TypeId} {fz : Nat × Nat} (h : w.heap[g]? = some (.cells #[.int .i64 (x : Nat)] T fz)) : Nums w (.slice (some ⟨g, 0, none⟩) 1 1) [x] :=
  ⟨_, _, rfl, .inr ⟨_, 0, rfl, heap_lt h, fun i hi => by
    have e : i = 0 := by simp at hi; exact hi
    subst e
    rw [cell_at h]; rfl⟩⟩
theorem row_some {w : World} {B : Nat} {v : Value} {m : Nat} {xs : List Value} (h : w.ownsRow B 5 1 v m xs) (h0 : m ≠ 0) : ∃ g c, v = .slice (some ⟨g, 0, none⟩) m c := by
  rcases h.2 with ⟨rfl, e⟩ | ⟨g, cap, cur, rfl, _⟩
  · exact absurd e h0
  · exact ⟨g, cap, rfl⟩
set_option maxRecDepth 20000 in
set_option maxHeartbeats 8000000 in
theorem walk (s : Int) (s0 : -9223372036854775808 ≤ s) (s1 : s ≤ 9223372036854775807) (p : Int) (p0 : -9223372036854775808 ≤ p) (p1 : p ≤ 9223372036854775807) (w : World)
    (ba : Option Addr) (bl bc : Nat) (z : Nat → Int) (hbl : bl ≤ 9223372036854775807) (J : IntsIn .u8 w ba bl z) (x : Bool) :
    Calls Try.prog 5 #[.int .i64 s, .int .i64 p, .slice ba bl bc, .bool x] w fun e w' => e = .returned (.bool true) ∧ Below w.heap.size w w' := by
  have HP0 := Lib.hid p0
  have HP1 := Lib.hid p1
  have HS0 := Lib.hid s0
  have HS1 := Lib.hid s1
  have HJ := Lib.hid J
  clear p0 p1 s0 s1 J
  go_enter Try.func5, Try.ntmps5
  go_wp2_with fail
  refine (awake_any _).mono ?_
  rintro e w1 ⟨rfl, B1⟩
  go_wp2_with fail
  refine (lawdisk_any s HS0.out HS1.out 0 (by decide) w1).mono ?_
  rintro e w2 ⟨v, rfl, D2, B2⟩
  obtain ⟨n, hn⟩ : ∃ n, n = secs s := ⟨_, rfl⟩
  rw [← hn] at D2
  have hn5 : n < 5 := by rw [hn]; exact secs_lt s
  clear hn
  have B02 := Lib.hid (B1.trans (B2.mono B1.size))
  go_wp2_with fail
  refine (new_at (n := n) (reads_row D2) (by omega) (dsk_lt 0)).mono ?_
  rintro e w3 ⟨b, rfl, A3⟩
  obtain ⟨m, hm⟩ : ∃ m, m = n * 512 := ⟨_, rfl⟩
  rw [← hm] at D2
  have q1 : (m : Int) / 512 = n := by omega
  have q2 : (m : Int) ≤ 2048 := by omega
  by_cases hn0 : n = 0
  · have z1 : (m : Int) ≤ 0 := by omega
    have z2 : (0 : Int) ≤ (m : Int) := by omega
    obtain ⟨a, c, rfl⟩ := row_len D2
    have HB := Lib.hid (B02.out.trans (A3.below.mono B02.out.size))
    clear hn0 hm
    go_wp2_with fail
    go_ret
    exact ⟨rfl, HB.out⟩
  · obtain ⟨g, c, rfl⟩ := row_some D2 (by omega)
    have z1 : (0 : Int) < m := by omega
    by_cases hb0 : bl = 0
    · have g1 : ((m : Int) == 0) = false := by simp; omega
      have g2 : ((bl : Int) == 0) = true := by simp; omega
      have HB := Lib.hid (B02.out.trans (A3.below.mono B02.out.size))
      clear hn0 hm hb0
      go_wp2_with fail
      go_ret
      exact ⟨rfl, HB.out⟩
    · have g1 : ((m : Int) == 0) = false := by simp; omega
      have g2 : ((bl : Int) == 0) = false := by simp; omega
      have z3 : (0 : Int) < bl := by omega
      have z4 : (bl : Int) ≤ 9223372036854775807 := by omega
      have HBL := Lib.hid hb0
      have HN0 := Lib.hid hn0
      have HM := Lib.hid hm
      obtain ⟨r, hr⟩ : ∃ r : Nat, r = ((if p < 0 then -(p + 1) else p) % (n : Int)).toNat := ⟨_, rfl⟩
      have main : ∀ t : Int, (t = if p < 0 then -(p + 1) else p) → 0 ≤ t ∧ t ≤ 9223372036854775807 ∧ t % (n : Int) = (r : Int) := fun t ht => by
        have a0 := HP0.out
        have a1 := HP1.out
        have t0 : 0 ≤ t ∧ t ≤ 9223372036854775807 := by
          by_cases h : p < 0
          · rw [if_pos h] at ht; omega
          · rw [if_neg h] at ht; omega
        have a2 := Int.emod_nonneg t (show (n : Int) ≠ 0 by omega)
        rw [hr, ← ht]
        omega
      have hrn : r < n := by
        have a2 := Int.emod_lt_of_pos (if p < 0 then -(p + 1) else p) (show (0 : Int) < n by omega)
        omega
      have HMN := Lib.hid main
      clear hn0 hm hb0 hr main
      go_upto_if 49 with (fail)
      clear g1 g2
      go_cut [1] from 48 (fun y wc => ∃ t : Int, y = .int .i64 t ∧ (0 ≤ t ∧ t ≤ 9223372036854775807 ∧ t % (n : Int) = (r : Int)) ∧ w3 = wc)
      case first =>
        have p0 := HP0.out
        have p1 := HP1.out
        by_cases hneg : p < 0
        · have q : 0 ≤ -(p + 1) := by omega
          go_wp2_with fail
          go_meet
          exact ⟨_, rfl, HMN.out _ (if_pos hneg).symm, rfl⟩
        · go_wp2_with fail
          go_meet
          exact ⟨_, rfl, HMN.out _ (if_neg (by omega)).symm, rfl⟩
      case rest =>
        obtain ⟨t, rfl, ⟨t0, t1, t2⟩, rfl⟩ := hcut
        have HT := Lib.hid t2
        have n0 : (0 : Int) < n := by omega
        clear t2
        go_upto_if 58 with (fail)
        rw [HT.out]
        clear t0 t1 HT
        go_cut [13] from 58 (fun y wc => ∃ sz : Nat, y = .int .i64 (sz : Nat) ∧ (sz = 2 ∨ sz = 4) ∧ w3 = wc)
        case first =>
          cases x
          all_goals
            go_wp2_with fail
            go_meet
          · exact ⟨2, rfl, .inl rfl, rfl⟩
          · exact ⟨4, rfl, .inr rfl, rfl⟩
        case rest =>
          obtain ⟨sz, rfl, hsz, rfl⟩ := hcut
          have HSZ := Lib.hid hsz
          have sz1 : (2 : Int) ≤ sz := by omega
          have sz2 : (sz : Int) ≤ 4 := by omega
          have r0 : (0 : Int) ≤ r := by omega
          have r1 : (r : Int) < 4 := by omega
          clear hsz
          go_wp2_with fail
          refine (sector_any A3 48 (by decide) _ r (by omega) (by show 0 + 4 < _; decide)).mono ?_
          rintro e w4 ⟨rfl, A4⟩
          have W4 := sect_write (S := Dk.new n (dsk 0)) (n := n) (p := r) (d := dsk 0) rfl rfl rfl hrn (by omega) (fby z bl)
          have ST : Stage w w4 b w1.heap.size g m c n r (dsk 0) (fby z bl) 0 0 := ⟨_, w2, A4, by rw [part_0]; exact D2, B1.size, B02.out, W4⟩
          have HF := Lib.hid (fby_lt HJ.out (Nat.pos_of_ne_zero HBL.out))
          clear A3 A4 W4
          have HD := Lib.hid D2
          clear D2
          go_wp2_with fail
          go_loopw [14] (fun i wc => ∃ K : Nat, K ≤ 512 ∧ i = .int .i64 K ∧ Hid (K % sz = 0) ∧ Stage w wc b w1.heap.size g m c n r (dsk 0) (fby z bl) K K) (fun i _ => 512 - (intOf i).toNat)
          case atStart => exact ⟨0, by omega, rfl, Lib.hid (Nat.zero_mod _), ST⟩
          case round =>
            clear ST
            obtain ⟨K, hK, rfl, HK, ST⟩ := hrel
            by_cases hlt : K < 512
            · have p1 : (0 : Int) ≤ (K : Int) := by omega
              have p2 : (K : Int) < 512 := by omega
              have HKS := Lib.hid (show K + sz ≤ 512 by have := HK.out; rcases HSZ.out with e | e <;> subst e <;> omega)
              obtain ⟨wo, rfl⟩ : ∃ wo : World, wo = wr := ⟨_, rfl⟩
              have HZ := Lib.hid sz1
              clear q1 q2 z1 HBL HN0 HP0 HP1 HS0 HS1
              go_wp2_with fail
              go_loopw [15, 16] (fun v i wc => ∃ k : Nat, k ≤ sz ∧ i = .int .i64 k ∧ v = .int .u32 (vsum (fby z bl) K k : Nat) ∧ Stage w wc b w1.heap.size g m c n r (dsk 0) (fby z bl) (K + k) K) (fun _ i _ => sz - (intOf i).toNat)
              case atStart => exact ⟨0, by omega, rfl, rfl, ST⟩
              case round =>
                clear ST
                obtain ⟨k, hk, rfl, rfl, ST⟩ := hrel
                by_cases hlt2 : k < sz
                · have k1 : (0 : Int) ≤ (k : Int) := by omega
                  have k2 : (k : Int) < sz := by omega
                  obtain ⟨bb, off, rfl, hbb, hbc⟩ := fby_cell HJ.out (by omega)
                  have hcb := (ST.below.cell (p := ⟨bb, off + (K + k) % bl, none⟩) hbb).trans (hbc (K + k))
                  have hbb2 : bb < wr.heap.size := Nat.lt_of_lt_of_le hbb ST.below.size
                  have htm : r * 512 + (K + k) < m := by have := HM.out; have := HKS.out; omega
                  obtain ⟨hct, hft⟩ := ST.cell (r * 512 + (K + k)) htm
                  have hgl := ST.glt
                  have hne : g ≠ bb := by have := stage_gge ST; omega
                  have hcs : (wr.setCell ⟨g, r * 512 + (K + k), none⟩ (.int .u8 (fby z bl (K + k) : Nat))).cell? ⟨bb, off + (K + k) % bl, none⟩ = some (.int .u8 (fby z bl (K + k) : Nat)) :=
                    (World.cell?_of_block (heap_set_other (b := bb) _ (fun e => hne e.symm))).trans hcb
                  have STS := Lib.hid (ST.store htm)
                  have hvl := vsum_lt (fby z bl) HF.out K k
                  obtain ⟨j, hj⟩ : ∃ j, j = (K + k) % bl := ⟨_, rfl⟩
                  obtain ⟨tt, htt⟩ : ∃ tt, tt = r * 512 + (K + k) := ⟨_, rfl⟩
                  have hjl : j < bl := by rw [hj]; exact Nat.mod_lt _ (by omega)
                  have e1 : ((K : Int) + (k : Int)) % (bl : Int) = (j : Int) := by rw [hj]; push_cast; rfl
                  have e2 : (r : Int) * 512 + (K : Int) + (k : Int) = (tt : Int) := by rw [htt]; omega
                  rw [← hj] at hcb hcs
                  rw [← htt] at hct hft STS htm hcs
                  have HV := Lib.hid (show vsum (fby z bl) K (k + 1) = vsum (fby z bl) K k + fby z bl (K + k) * 256 ^ k from rfl)
                  have HY := Lib.hid (HF.out (K + k))
                  have HX := Lib.hid hvl
                  have y1 : (0 : Int) ≤ (fby z bl (K + k) : Nat) := by omega
                  have y2 : ((fby z bl (K + k) : Nat) : Int) < 256 := by have := HF.out (K + k); omega
                  have v1 : (0 : Int) ≤ (vsum (fby z bl) K k : Nat) := by omega
                  generalize part (dsk 0) (fby z bl) (r * 512) (K + k) tt = old at hct
                  clear ST hbc hj htt hvl
                  generalize hyy : fby z bl (K + k) = y at *
                  generalize hvv : vsum (fby z bl) K k = vv at *
                  have HYY := Lib.hid hyy
                  have HVV := Lib.hid hvv
                  clear hyy hvv
                  go_wp2_with fail
                  go_roundw
                  case rel => exact ⟨k + 1, by omega, by go_num, (by rw [HV.out, add_shift vv y k HX.out HY.out (by omega)]), STS.out⟩
                  case measure => (simp [intOf]) <;> omega
                · have hk2 : k = sz := by omega
                  have k2 : (sz : Int) ≤ k := by omega
                  have HK2 := Lib.hid hk2
                  clear hk2
                  go_wp2_with fail
                  rw [HK2.out] at ST ⊢
                  refine (ST.out sz HSZ.out rfl HKS.out hrn (by omega) HF.out).mono ?_
                  rintro e w6 ⟨rfl, ST6⟩
                  have hks := HKS.out
                  go_wp2_with fail
                  go_roundw
                  case rel => exact ⟨K + sz, by omega, by go_num, Lib.hid (by have := HK.out; rcases HSZ.out with e | e <;> subst e <;> omega), ST6⟩
                  case measure => (simp [intOf]) <;> omega
            · have hK2 : K = 512 := by omega
              have p2 : (512 : Int) ≤ (K : Int) := by omega
              obtain ⟨S, wd, A, Rw, hB, Bl, W⟩ := ST
              rw [hK2] at W Rw
              rw [part_512] at Rw
              clear hK2
              obtain ⟨o1, o2, o3⟩ := W.off rfl
              have on := W.hn
              have HC := Lib.hid (fun w' (h : At wd w' b S) => conv_row (row_keep Rw h.below (Nat.le_refl _)))
              have HW := Lib.hid (And.intro on (And.intro o2 o3))
              clear W o1 o2 o3 on
              have HBl := Lib.hid Bl
              clear Bl
              go_upto_region 25 with (fail)
              go_cut [122] from 109 (fun y wc => y = .bool false ∧ ∃ S', At wd wc b S' ∧ S'.n = n ∧ S'.d = laid (dsk 0) (fby z bl) (r * 512) ∧ S'.log = [])
              case first =>
                have cv := HC.out wr A
                have cvd := HC.out wr.drew (A.drewN 1)
                have HONE : [r].length < 17592186044416 := by show 1 < 17592186044416; decide
                go_region_with (first
                  | (go_at_call 15; refine (disk_d (w := wr.drew) (A.drewN 1) HW.out.1 HW.out.2.2 HM.out).mono ?_; rintro e w5 ⟨v5, rfl, cv5, A5⟩; have cw5 := HC.out _ A5)
                  | (go_at_call 17; first
                      | (refine (written_d (w := w5) A5 HW.out.2.1).mono ?_; rintro e w6 ⟨v6, rfl, A6, N6, B6⟩)
                      | (refine (written_f (AtF.new A5 (Below.alloc (Below.refl _ _) (Nat.le_refl _) _) (heap_new _ _)) HW.out.2.1).mono ?_; rintro e w6 ⟨v6, rfl, AF6, N6⟩; have A6 := AF6.at))
                  | (go_at_call 16; first
                      | ((with_reducible refine (same_any (N6.alloc _) (Nums.made _ _ _) HONE).mono ?_); rintro e w7 ⟨rfl, nq, rfl⟩; have A7 := Lib.hid ((A6.alloc (.cells #[.int .i64 (r : Nat)] 3)).drewN nq))
                      | ((with_reducible refine (same_any N6 (nums_obj AF6.obj) HONE).mono ?_); rintro e w7 ⟨rfl, nq, rfl⟩; have A7 := Lib.hid (A6.drewN nq))))
                all_goals
                  have HE := Lib.hid (show At wd _ b S.quit ∧ S.quit.n = n ∧ S.quit.d = laid (dsk 0) (fby z bl) (r * 512) ∧ S.quit.log = [] from ⟨A7.out, HW.out.1, HW.out.2.2, rfl⟩)
                  clear A6 A7 A5 cv cvd cw5 HC HW A
                  go_wp2_with fail
                  go_meet
                  exact ⟨rfl, S.quit, HE.out⟩
              case rest =>
                obtain ⟨rfl, S', A', n', d', l'⟩ := hcut
                clear HC HW A
                have HL := Lib.hid (show S'.log.length + 4 < 17592186044416 by rw [l']; decide)
                have RD := sect_read (S := S') (p := r) n' d' hrn (by omega)
                rw [l'] at RD
                clear n' d' l'
                go_wp2_with fail
                refine (sector_any A' 32 (by decide) _ r (by omega) HL.out).mono ?_
                rintro e w7 ⟨rfl, A7⟩
                generalize S'.sect 32 r = S7 at A7 RD
                clear A'
                go_wp2_with fail
                go_loopw [17] (fun i wc => ∃ k : Nat, k ≤ 512 ∧ i = .int .i64 k ∧ ∃ S, At wd wc b S ∧ Reading n (laid (dsk 0) (fby z bl) (r * 512)) ((r + 1) * 512) (r * 512 + k) [] S) (fun i _ => 512 - (intOf i).toNat)
                case atStart => exact ⟨0, by omega, rfl, S7, A7, RD⟩
                case round =>
                  clear A7 RD
                  obtain ⟨k, hk, rfl, S, A, R⟩ := hrel
                  by_cases hlt2 : k < 512
                  · obtain ⟨hv, ht⟩ := reading_in R (by omega) (by omega) (by omega) (by omega)
                    have htm : r * 512 + k < m := by have := HM.out; omega
                    obtain ⟨g', cap', e', hc, hgl⟩ := row_cell Rw (r * 512 + k) htm
                    obtain ⟨rfl⟩ : g = g' := by injection e' with e1; injection e1 with e1; injection e1
                    have k1 : (0 : Int) ≤ (k : Int) := by omega
                    have k2 : (k : Int) < 512 := by omega
                    have HT := Lib.hid ht
                    have HC := Lib.hid hc
                    rw [laid_at _ _ _ _ hlt2] at hv hc
                    have hb8 := HF.out k
                    obtain ⟨tt, htt⟩ : ∃ tt, tt = r * 512 + k := ⟨_, rfl⟩
                    have e2 : (r : Int) * 512 + (k : Int) = (tt : Int) := by rw [htt]; omega
                    rw [← htt] at hc htm
                    clear ht R e' htt
                    go_wp2_with fail
                    refine (in_at A 0 1).mono ?_
                    rintro e w11 ⟨rfl, A11⟩
                    rw [hv]
                    have hc := (A11.below.cell (p := ⟨g, tt, none⟩) hgl).trans hc
                    have hg2 : g < w11.heap.size := Nat.lt_of_lt_of_le hgl A11.below.size
                    have y1 : (0 : Int) ≤ (fby z bl k : Nat) := by omega
                    have y2 : ((fby z bl k : Nat) : Int) < 256 := by omega
                    generalize fby z bl k = y at *
                    generalize S.inS 0 1 = S11 at *
                    clear hv A HC
                    go_wp2_with fail
                    go_roundw
                    case rel => exact ⟨k + 1, by omega, by go_num, S11, A11, HT.out⟩
                    case measure => (simp [intOf]) <;> omega
                  · have hk2 : k = 512 := by omega
                    have p2 : (512 : Int) ≤ (k : Int) := by omega
                    rw [hk2, show r * 512 + 512 = (r + 1) * 512 by omega] at R
                    obtain ⟨r1, r2⟩ := reading_end R
                    clear R hk2
                    go_wp2_with fail
                    refine (in_at A 7 1).mono ?_
                    rintro e w11 ⟨rfl, A11⟩
                    rw [r1]
                    have HB := Lib.hid (HBl.out.trans (A11.below.mono HBl.out.size))
                    go_wp2_with fail
                    go_ret
                    exact ⟨rfl, HB.out⟩

set_option maxRecDepth 100000 in
theorem lifted (os : Os) (started : os.Started) (H : Type) (enc : TypeId × Value → H) :
    ReturnsInHanded {} Try.checked os 5 .any (Rows.ideBackSpec.pre6 enc Try.prog Try.f5 Rows.ideBackRow.domain false) (Rows.ideBackSpec.post enc Try.prog Try.f5 false true false false) := by
  refine returnsInHanded_of_change (C := Try.checked) own started (by kernel_rfl) Try.func5
    (ChangeSpec.witness6 (enc := enc) (C := Try.checked) false ⟨#[], #[.int .i64 0, .int .i64 0, .slice none 0 0, .bool false], []⟩ 8 (by kernel_rfl) (by kernel_rfl) (by kernel_rfl) (by kernel_rfl)) ?_
  intro W base args ds gs before hval0 hW hcnd _
  have hval : ∀ (j : Nat) t v, Try.f5.params[j]? = some t → args[j]? = some v → Value.okWide Try.prog W .any base t v := hval0
  have hW' := hW
  obtain ⟨p, q, hA0, hV, rfl, hfz, hnd⟩ := hW
  have hA : DataW.TrodAll enc Try.prog W 0 (fun _ => true) true Try.f5.params.toList args.toList ds p := hA0
  rw [Try.params5] at hA hval
  obtain ⟨v0, vs0, d0, ds0, p0, q0, hargs, rfl, rfl, h0, r0⟩ := trodAll_cons hA
  obtain ⟨v1, vs1, d1, ds1, p1, q1, rfl, rfl, rfl, h1, r1⟩ := trodAll_cons r0
  obtain ⟨v2, vs2, d2, ds2, p2, q2, rfl, rfl, rfl, h2, r2⟩ := trodAll_cons r1
  obtain ⟨v3, vs3, d3, ds3, p3, q3, rfl, rfl, rfl, h3, r3⟩ := trodAll_cons r2
  obtain ⟨rfl, rfl, rfl⟩ := trodAll_nil r3
  obtain rfl : args = #[v0, v1, v2, v3] := by cases args; simp_all
  clear hA0 hval0
  obtain ⟨a0, rfl, l0, u0⟩ := arg_int Try.underlying3 (hval 0 3 v0 rfl rfl)
  obtain ⟨a1, rfl, l1, u1⟩ := arg_int Try.underlying3 (hval 1 3 v1 rfl rfl)
  obtain ⟨a2, n2, c2, z2, rfl, m2, J2⟩ := arg_ints Try.underlying23 Try.underlying5 (by kernel_rfl) (hval 2 23 v2 rfl rfl) h2
  obtain ⟨a3, rfl⟩ := arg_bool Try.underlying4 (hval 3 4 v3 rfl rfl)
  exact law_end (by kernel_rfl) hW' rfl (by kernel_rfl) Try.underlying4 rfl rfl (walk a0 l0 u0 a1 l1 u1 W a2 n2 c2 z2 m2 J2 a3)

theorem proved : Rows.IdeBackSaid :=
  OpenClaim.holds_of_wide 5 Try.f5 rfl rfl rfl rfl rfl rfl rfl ⟨rfl, rfl, rfl, rfl, rfl⟩ rfl rfl rfl rfl rfl (by kernel_rfl) Try.func5 (by kernel_rfl)
    (of_decide_eq_true (by kernel_rfl)) (by unfold Func.isWrapper; first | (rw [if_pos (by decide +kernel)]; kernel_rfl) | (rw [if_neg (by decide +kernel)]; exact ⟨rfl, rfl⟩))
    (fun os started H enc _ => lifted os started H enc)
#print axioms proved
end Go.Proofs.Ytebhnfoehgpilaa.ideBack
