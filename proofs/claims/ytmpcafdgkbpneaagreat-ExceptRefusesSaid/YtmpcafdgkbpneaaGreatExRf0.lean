/- except's law Refuses: one kind of gate. -/
import Derived.Test.YtmpcafdgkbpneaaGreatTr
open List renaming getElem_toArray → lz0, getElem_cons_zero → lz1, getElem_cons_succ → lz2, setIfInBounds_toArray → lz3, set_cons_zero → lz4, set_cons_succ → lz5
namespace Go.Proofs.YtmpcafdgkbpneaaGreat
open Go.RowKit Go.MapKept
set_option linter.unusedVariables false
set_option linter.unusedSimpArgs false
attribute [local go_sem ↓] Go.wp_at_zero Go.wp_at_succ
set_option maxRecDepth 100000 in
set_option maxHeartbeats 8000000 in
theorem refuses_0 (vec : Int) (q1 : -9223372036854775808 ≤ vec) (q2 : vec ≤ 9223372036854775807) (how : Int) (q3 : -9223372036854775808 ≤ how) (q4 : how ≤ 9223372036854775807) (soft : Bool) (hw : vecN how % 4 = ((0 : Nat) : Int)) (w : World) :
    Calls Tryz.prog 8 #[.int .i64 vec, .int .i64 how, .bool soft] w fun e w' => e = .returned (.bool true) ∧ Below w.heap.size w w' := by
 obtain ⟨m, hm, hv⟩ := vecN_mod vec 64 (by decide)
 have HM := Lib.hid (And.intro hm (And.intro hv (And.intro (show (0 : Nat) < 4 by decide) hw)))
 have z0 := vecN_pos vec
 have z1 : vecN vec ≤ 9223372036854775807 := by unfold vecN; split <;> omega
 have y0 := vecN_pos how
 have y1 : vecN how ≤ 9223372036854775807 := by unfold vecN; split <;> omega
 have HZ := Lib.hid (And.intro z0 (And.intro z1 (And.intro y0 y1)))
 clear hm hv hw z0 z1 y0 y1
 go_enter Tryz.func8, Tryz.ntmps8
 go_wp2_with fail
 refine (awake18 _).mono ?_
 rintro e w1 ⟨rfl, hb1⟩
 have HB1 := Lib.hid hb1
 clear hb1
 go_upto_if 19 with (fail)
 go_cut [0] from 20 (fun y wc => y = .int .i64 (vecN vec) ∧ w1 = wc)
 case first =>
  by_cases hneg : vec < 0
  ·have hn : vecN vec = -(vec + 1) := if_pos hneg
   go_wp2_with fail
   go_meet
   exact ⟨by rw [hn], rfl⟩
  ·have hn : vecN vec = vec := if_neg hneg
   go_wp2_with fail
   go_meet
   exact ⟨by rw [hn], rfl⟩
 case rest =>
  obtain ⟨rfl, rfl⟩ := hcut
  go_upto_if 24 with (fail)
  go_cut [1] from 25 (fun y wc => y = .int .i64 (vecN how) ∧ w1 = wc)
  case first =>
   by_cases hneg : how < 0
   ·have hn : vecN how = -(how + 1) := if_pos hneg
    go_wp2_with fail
    go_meet
    exact ⟨by rw [hn], rfl⟩
   ·have hn : vecN how = how := if_neg hneg
    go_wp2_with fail
    go_meet
    exact ⟨by rw [hn], rfl⟩
  case rest =>
   obtain ⟨rfl, rfl⟩ := hcut
   have hr : (vecN vec).tmod 64 = ((m : Nat) : Int) := by rw [Int.tmod_eq_emod_of_nonneg HZ.out.1]; exact HM.out.2.1
   have hr2 : vecN vec % 64 = ((m : Nat) : Int) := HM.out.2.1
   have hs : (vecN how).tmod 4 = ((0 : Nat) : Int) := by rw [Int.tmod_eq_emod_of_nonneg HZ.out.2.2.1]; exact HM.out.2.2.2
   have hs2 : vecN how % 4 = ((0 : Nat) : Int) := HM.out.2.2.2
   obtain ⟨z0, z1, y0, y1⟩ := HZ.out
   have hm64 := HM.out.1
   generalize vecN vec = z at *
   generalize vecN how = y at *
   go_upto_region 11 with (fail)
   have hb2 : Below w.heap.size w (w1.alloc (.cells #[.int .u32 3584, .int .u32 35840, .int .u32 40448, .int .u32 36352] 22)) := HB1.out.alloc HB1.out.size _
   have HB2 := Lib.hid hb2
   go_wp2_with fail
   refine (started0 3584 (by decide) _).mono ?_
   rintro e w3 ⟨eb, vb, bb, pm, rfl, T3⟩
   have HT3 := Lib.hid (show Hp w (fun _ => False) w3 [oEn eb vb bb ⟨8, pm⟩ 0 (startS 0 3584)] from ((Hp.zero w).grow HB2.out).join T3)
   clear T3 hb2 HB1 HB2
   go_upto_if 47 with (fail)
   go_cut [11] from 48 (fun y wc => y = .int .i64 (xOf soft) ∧ w3 = wc)
   case first =>
    cases soft
    ·go_wp2_with fail
     go_meet
     exact ⟨rfl, rfl⟩
    ·go_wp2_with fail
     go_meet
     exact ⟨rfl, rfl⟩
   case rest =>
    obtain ⟨rfl, rfl⟩ := hcut
    obtain ⟨R1, he1⟩ := refuse_two 0 soft (by decide) (fun h => absurd h.1 (by decide)) m HM.out.1
    change triedE (enterE (m : Nat) (-1) soft) (startS 0 3584) = (⟨11, 8 * (m : Int) + 2 + xOf soft, 0⟩, ⟨startC 0, R1⟩) at he1
    have he2 := far_two (startC 0) R1 rfl soft (m + 64) (by omega) (by have := HM.out.1; omega)
    rw [show (((m + 64 : Nat)) : Int) = (m : Int) + 64 by push_cast; rfl] at he2
    have hx01 : 0 ≤ xOf soft ∧ xOf soft ≤ 1 := by cases soft <;> exact ⟨by decide, by decide⟩
    obtain ⟨x, hx⟩ : ∃ x, x = xOf soft := ⟨_, rfl⟩
    rw [← hx] at hx01 he1 he2
    rw [← hx]
    have HE := Lib.hid (And.intro he1 he2)
    clear he1 hx he2
    have hm64 := HM.out.1
    obtain ⟨hx0, hx1⟩ := hx01
    have HT4 := Lib.hid (show Hp w (fun _ => False) (w3.alloc (.cells #[.int .i64 13, .int .i64 (8 * (m : Int) + 2 + x), .int .u32 0] 42)) [oEn eb vb bb ⟨8, pm⟩ 0 (startS 0 3584), Ob.box w3.heap.size (.cells #[.int .i64 13, .int .i64 (8 * (m : Int) + 2 + x), .int .u32 0] 42)] from HT3.out.make _)
    go_upto_region 20 with (fail)
    have HT5 := Lib.hid (show Hp w (fun _ => False) (w3.alloc (.cells #[.int .i64 11, .int .i64 (8 * (m : Int) + 2 + x), .int .u32 0] 42)) [oEn eb vb bb ⟨8, pm⟩ 0 (startS 0 3584), Ob.box w3.heap.size (.cells #[.int .i64 11, .int .i64 (8 * (m : Int) + 2 + x), .int .u32 0] 42)] from HT3.out.make _)
    change Code.wp _ _ _ _ (w3.alloc (.cells #[.int .i64 11, .int .i64 (8 * (m : Int) + 2 + x), .int .u32 0] 42))
    generalize w3.alloc (.cells #[.int .i64 11, .int .i64 (8 * (m : Int) + 2 + x), .int .u32 0] 42) = w4 at *
    generalize w3.heap.size = ab at *
    clear HT3 HT4
    have HR := Lib.hid (env_range HT5.out)
    change Hid (w4.rangeAt eb 0 (startC 0).cells) at HR
    have HN := Lib.hid (heap_new w4 (.cells zero83C 36))
    have hz := fun w => zero83 w
    have hlen : (Tryz.prog.info? 36).map (·.size) = some (startC 0).cells.length := by rw [(startC 0).cells_len]; exact info83
    have hone := cells_one (startC 0)
    have hsz : (startC 0).cells.toArray.size = 83 := by rw [List.size_toArray]; exact (startC 0).cells_len
    have heq := eq_cpu (startC 0)
    obtain ⟨cL, hcL⟩ : ∃ cL, cL = (startC 0).cells := ⟨_, rfl⟩
    rw [← hcL] at HR hlen hone hsz heq
    have HX := Lib.hid (And.intro hlen (And.intro hone (And.intro hsz (And.intro heq hcL))))
    clear hlen hone hsz heq hcL
    have HT6 := Lib.hid (show Hp w (fun _ => False) (w4.alloc (.cells cL.toArray 36)) [oEn eb vb bb ⟨8, pm⟩ 0 (startS 0 3584), Ob.box ab (.cells #[.int .i64 11, .int .i64 (8 * (m : Int) + 2 + x), .int .u32 0] 42), Ob.box w4.heap.size (.cells cL.toArray 36)] from HT5.out.make _)
    go_upto_region 21 with (first | (refine wpList_load_mid rfl _ _ rfl eb 0 rfl cL _ HR.out Tryz.underlying36 rfl HX.out.1 ?_) | (refine wpList_store_row rfl _ _ _ rfl w4.heap.size cL.toArray rfl rfl _ _ HN.out (by rw [HX.out.2.2.1]; exact info83) (by rw [HX.out.2.2.1]; rfl) HX.out.2.1 ?_))
    change Code.wp _ _ _ _ ((w4.alloc (.cells zero83C 36)).setRow w4.heap.size cL.toArray)
    rw [World.setRow_alloc_new]
    clear HR HN hz HT5
    generalize w4.alloc (.cells cL.toArray 36) = w5 at *
    generalize w4.heap.size = cb at *
    go_wp2_with fail
    refine (HT6.out.act 0 rfl (enter_x (m : Nat) (-1) soft (by decide))).mono ?_
    rw [HE.out.1]
    rintro e w6 ⟨he, T6⟩
    change e = .returned (.agg #[.int .i64 11, .int .i64 (8 * (m : Int) + 2 + x), .int .u32 0]) at he
    subst he
    have HT7 := Lib.hid (show Hp w (fun _ => False) (w6.alloc (.cells #[.int .i64 11, .int .i64 (8 * (m : Int) + 2 + x), .int .u32 0] 42)) [oEn eb vb bb ⟨8, pm⟩ 40 ⟨startC 0, R1⟩, Ob.box ab (.cells #[.int .i64 11, .int .i64 (8 * (m : Int) + 2 + x), .int .u32 0] 42), Ob.box cb (.cells cL.toArray 36), Ob.box w6.heap.size (.cells #[.int .i64 11, .int .i64 (8 * (m : Int) + 2 + x), .int .u32 0] 42)] from T6.make _)
    clear T6 HT6
    go_upto_region 24 with (fail)
    change Code.wp _ _ _ _ (w6.alloc (.cells #[.int .i64 11, .int .i64 (8 * (m : Int) + 2 + x), .int .u32 0] 42))
    generalize w6.alloc (.cells #[.int .i64 11, .int .i64 (8 * (m : Int) + 2 + x), .int .u32 0] 42) = w7 at *
    generalize w6.heap.size = fb at *
    go_wp2_with fail
    refine (HT7.out.act 0 rfl (enter_x ((m : Int) + 64) (-1) soft (by decide))).mono ?_
    rw [HE.out.2]
    rintro e w8 ⟨he, T8⟩
    change e = .returned (.agg #[.int .i64 13, .int .i64 (8 * ((m : Int) + 64) + 2 + x), .int .u32 0]) at he
    subst he
    have HT8 := Lib.hid (show Hp w (fun _ => False) (w8.alloc (.cells #[.int .i64 13, .int .i64 (8 * ((m : Int) + 64) + 2 + x), .int .u32 0] 42)) [oEn eb vb bb ⟨8, pm⟩ 80 ⟨startC 0, R1⟩, Ob.box ab (.cells #[.int .i64 11, .int .i64 (8 * (m : Int) + 2 + x), .int .u32 0] 42), Ob.box cb (.cells cL.toArray 36), Ob.box fb (.cells #[.int .i64 11, .int .i64 (8 * (m : Int) + 2 + x), .int .u32 0] 42), Ob.box w8.heap.size (.cells #[.int .i64 13, .int .i64 (8 * ((m : Int) + 64) + 2 + x), .int .u32 0] 42)] from T8.make _)
    clear T8 HT7
    go_upto_region 25 with (fail)
    change Code.wp _ _ _ _ (w8.alloc (.cells #[.int .i64 13, .int .i64 (8 * ((m : Int) + 64) + 2 + x), .int .u32 0] 42))
    generalize w8.alloc (.cells #[.int .i64 13, .int .i64 (8 * ((m : Int) + 64) + 2 + x), .int .u32 0] 42) = w9 at *
    generalize w8.heap.size = gb at *
    have HT9 := Lib.hid (show Hp w (fun _ => False) (w9.alloc (.cells #[.int .i64 13, .int .i64 (8 * ((m : Int) + 64) + 2 + x), .int .u32 0] 42)) [oEn eb vb bb ⟨8, pm⟩ 80 ⟨startC 0, R1⟩, Ob.box ab (.cells #[.int .i64 11, .int .i64 (8 * (m : Int) + 2 + x), .int .u32 0] 42), Ob.box cb (.cells cL.toArray 36), Ob.box fb (.cells #[.int .i64 11, .int .i64 (8 * (m : Int) + 2 + x), .int .u32 0] 42), Ob.box gb (.cells #[.int .i64 13, .int .i64 (8 * ((m : Int) + 64) + 2 + x), .int .u32 0] 42), Ob.box w9.heap.size (.cells #[.int .i64 13, .int .i64 (8 * ((m : Int) + 64) + 2 + x), .int .u32 0] 42)] from HT8.out.make _)
    go_upto_region 26 with (fail)
    change Code.wp _ _ _ _ (w9.alloc (.cells #[.int .i64 13, .int .i64 (8 * ((m : Int) + 64) + 2 + x), .int .u32 0] 42))
    generalize w9.alloc (.cells #[.int .i64 13, .int .i64 (8 * ((m : Int) + 64) + 2 + x), .int .u32 0] 42) = w10 at *
    generalize w9.heap.size = hb at *
    have HH := Lib.hid HT9.out.drew
    clear HT8
    refine wp_region_held_drew (S := fun w' => Hp w (fun _ => False) w' [oEn eb vb bb ⟨8, pm⟩ 80 ⟨startC 0, R1⟩, Ob.box ab (.cells #[.int .i64 11, .int .i64 (8 * (m : Int) + 2 + x), .int .u32 0] 42), Ob.box cb (.cells cL.toArray 36), Ob.box fb (.cells #[.int .i64 11, .int .i64 (8 * (m : Int) + 2 + x), .int .u32 0] 42), Ob.box gb (.cells #[.int .i64 13, .int .i64 (8 * ((m : Int) + 64) + 2 + x), .int .u32 0] 42), Ob.box hb (.cells #[.int .i64 13, .int .i64 (8 * ((m : Int) + 64) + 2 + x), .int .u32 0] 42)]) (by kernel_rfl) HH.out (fun hHeld => ?_)
    refine wpAnyH_take (i := 0) (oi := _) (v := ?_) rfl (by kernel_rfl) (by kernel_rfl) (by kernel_rfl) (fun _ _ _ h => h) (Or.inl ⟨by rfl, ?_⟩) (by assumption) ?_
    rotate_left
    ·(intro w hSw; have f0 := (box_cells hSw (i := 3) rfl).1 0; have f1 := (box_cells hSw (i := 3) rfl).1 1; have f2 := (box_cells hSw (i := 3) rfl).1 2; have fl := (box_cells hSw (i := 3) rfl).2.2; simp at f0 f1 f2; (try dsimp only at hSw); go_simp <;> rfl)
    simp only [Act.put, lz0, lz1, lz2, lz3, lz4, lz5]
    refine wpAnyH_take (i := 1) (oi := _) (v := ?_) rfl (by kernel_rfl) (by kernel_rfl) (by kernel_rfl) (fun _ _ _ h => h) (Or.inl ⟨by rfl, ?_⟩) (by assumption) ?_
    rotate_left
    ·(intro w hSw; have g0 := (box_cells hSw (i := 1) rfl).1 0; have g1 := (box_cells hSw (i := 1) rfl).1 1; have g2 := (box_cells hSw (i := 1) rfl).1 2; have gl := (box_cells hSw (i := 1) rfl).2.2; simp at g0 g1 g2; (try dsimp only at hSw); go_simp <;> rfl)
    simp only [Act.put, lz0, lz1, lz2, lz3, lz4, lz5]
    refine wpAnyH_take (i := 2) (oi := _) (v := .bool true) rfl (by kernel_rfl) (by kernel_rfl) (by kernel_rfl) (fun _ _ _ h => h) (Or.inl ⟨by rfl, ?_⟩) (by assumption) ?_
    ·(intro w hSw; (try dsimp only at hSw); go_simp <;> simp)
    simp only [Act.put, lz0, lz1, lz2, lz3, lz4, lz5]
    refine wpAnyH_take (i := 3) (oi := _) (v := ?_) rfl (by kernel_rfl) (by kernel_rfl) (by kernel_rfl) (fun _ _ _ h => h) (Or.inl ⟨by rfl, ?_⟩) (by assumption) ?_
    rotate_left
    ·(intro w hSw; (try dsimp only at hSw); go_simp <;> rfl)
    simp only [Act.put, lz0, lz1, lz2, lz3, lz4, lz5]
    refine wpAnyH_take (i := 4) (oi := _) (v := ?_) rfl (by kernel_rfl) (by kernel_rfl) (by kernel_rfl) (fun _ _ _ h => h) (Or.inl ⟨by rfl, ?_⟩) (by assumption) ?_
    rotate_left
    ·(intro w hSw; have f0 := (box_cells hSw (i := 4) rfl).1 0; have f1 := (box_cells hSw (i := 4) rfl).1 1; have f2 := (box_cells hSw (i := 4) rfl).1 2; have fl := (box_cells hSw (i := 4) rfl).2.2; simp at f0 f1 f2; (try dsimp only at hSw); go_simp <;> rfl)
    simp only [Act.put, lz0, lz1, lz2, lz3, lz4, lz5]
    refine wpAnyH_take (i := 5) (oi := _) (v := ?_) rfl (by kernel_rfl) (by kernel_rfl) (by kernel_rfl) (fun _ _ _ h => h) (Or.inl ⟨by rfl, ?_⟩) (by assumption) ?_
    rotate_left
    ·(intro w hSw; have g0 := (box_cells hSw (i := 5) rfl).1 0; have g1 := (box_cells hSw (i := 5) rfl).1 1; have g2 := (box_cells hSw (i := 5) rfl).1 2; have gl := (box_cells hSw (i := 5) rfl).2.2; simp at g0 g1 g2; (try dsimp only at hSw); go_simp <;> rfl)
    simp only [Act.put, lz0, lz1, lz2, lz3, lz4, lz5]
    refine wpAnyH_take (i := 6) (oi := _) (v := .bool true) rfl (by kernel_rfl) (by kernel_rfl) (by kernel_rfl) (fun _ _ _ h => h) (Or.inl ⟨by rfl, ?_⟩) (by assumption) ?_
    ·(intro w hSw; (try dsimp only at hSw); go_simp <;> simp)
    simp only [Act.put, lz0, lz1, lz2, lz3, lz4, lz5]
    refine wpAnyH_take (i := 7) (oi := _) (v := ?_) rfl (by kernel_rfl) (by kernel_rfl) (by kernel_rfl) (fun _ _ _ h => h) (Or.inl ⟨by rfl, ?_⟩) (by assumption) ?_
    rotate_left
    ·(intro w hSw; (try dsimp only at hSw); go_simp <;> rfl)
    simp only [Act.put, lz0, lz1, lz2, lz3, lz4, lz5]
    refine wpAnyH_take (i := 8) (oi := _) (v := ?_) rfl (by kernel_rfl) (by kernel_rfl) (by kernel_rfl) (fun _ _ _ h => h) (Or.inl ⟨by rfl, ?_⟩) (by assumption) ?_
    rotate_left
    ·(intro w hSw; (try dsimp only at hSw); go_simp <;> rfl)
    simp only [Act.put, lz0, lz1, lz2, lz3, lz4, lz5]
    refine wpAnyH_take (i := 9) (oi := _) (v := ?_) rfl (by kernel_rfl) (by kernel_rfl) (by kernel_rfl) (fun _ _ _ h => h) (Or.inl ⟨by rfl, ?_⟩) (by assumption) ?_
    rotate_left
    ·(intro w hSw; (try dsimp only at hSw); go_simp <;> rfl)
    simp only [Act.put, lz0, lz1, lz2, lz3, lz4, lz5]
    refine wpAnyH_take (i := 10) (oi := _) (v := ?_) rfl (by kernel_rfl) (by kernel_rfl) (by kernel_rfl) (fun _ _ _ h => h) (Or.inl ⟨by rfl, ?_⟩) (by assumption) ?_
    rotate_left
    ·(intro w hSw; have el := en_lt hSw; (try dsimp only at hSw); go_simp <;> rfl)
    simp only [Act.put, lz0, lz1, lz2, lz3, lz4, lz5]
    refine wpAnyH_take (i := 11) (oi := _) (v := ?_) rfl (by kernel_rfl) (by kernel_rfl) (by kernel_rfl) (fun _ _ _ h => h) (Or.inl ⟨by rfl, ?_⟩) (by assumption) ?_
    rotate_left
    ·(intro w hSw; have el := en_lt hSw; (try dsimp only at hSw); go_simp <;> rfl)
    simp only [Act.put, lz0, lz1, lz2, lz3, lz4, lz5]
    refine wpAnyH_take (i := 12) (oi := _) (v := _) rfl (by kernel_rfl) (by kernel_rfl) (by kernel_rfl) (fun _ _ _ h => h) (yieldsIf_load_mid (by rfl) _ _ rfl eb _ rfl cL _ (fun _ h => (by rw [HX.out.2.2.2.2]; exact env_range h)) Tryz.underlying36 rfl HX.out.1) (by assumption) ?_
    simp only [Act.put, lz0, lz1, lz2, lz3, lz4, lz5]
    refine wpAnyH_take (i := 13) (oi := _) (v := _) rfl (by kernel_rfl) (by kernel_rfl) (by kernel_rfl) (fun _ _ _ h => h) (yieldsIf_load_mid (by rfl) _ _ rfl cb _ rfl cL _ (fun _ h => box_range (i := 2) h rfl) Tryz.underlying36 rfl HX.out.1) (by assumption) ?_
    simp only [Act.put, lz0, lz1, lz2, lz3, lz4, lz5]
    refine wpAnyH_take (i := 14) (oi := _) (v := .bool true) rfl (by kernel_rfl) (by kernel_rfl) (by kernel_rfl) (fun _ _ _ h => h) (yieldsIf_eql (by rfl) 36 _ _ _ rfl cL.toArray rfl rfl (by kernel_rfl) HX.out.2.2.2.1) (by assumption) ?_
    simp only [Act.put, lz0, lz1, lz2, lz3, lz4, lz5]
    refine wpAnyH_take (i := 15) (oi := _) (v := ?_) rfl (by kernel_rfl) (by kernel_rfl) (by kernel_rfl) (fun _ _ _ h => h) (Or.inl ⟨by rfl, ?_⟩) (by assumption) ?_
    rotate_left
    ·(intro w hSw; (try dsimp only at hSw); go_simp <;> rfl)
    simp only [Act.put, lz0, lz1, lz2, lz3, lz4, lz5]
    refine wpAnyH_take (i := 16) (oi := _) (v := ?_) rfl (by kernel_rfl) (by kernel_rfl) (by kernel_rfl) (fun _ _ _ h => h) (Or.inl ⟨by rfl, ?_⟩) (by assumption) ?_
    rotate_left
    ·(intro w hSw; (try dsimp only at hSw); go_simp <;> rfl)
    simp only [Act.put, lz0, lz1, lz2, lz3, lz4, lz5]
    refine wpAnyH_done (by kernel_rfl) ?_ _
    go_wp2_with fail
    go_returns
    exact ⟨rfl, hHeld.below⟩
end Go.Proofs.YtmpcafdgkbpneaaGreat
