/- except's law Refuses: one kind of gate. -/
import Derived.Test.YtmpcafdgkbpneaaGreatTr
namespace Go.Proofs.YtmpcafdgkbpneaaGreat
open Go.RowKit Go.MapKept
set_option linter.unusedVariables false
set_option linter.unusedSimpArgs false
attribute [local go_sem ↓] Go.wp_at_zero Go.wp_at_succ
set_option maxRecDepth 100000 in
set_option maxHeartbeats 8000000 in
theorem refuses_3 (vec : Int) (q1 : -9223372036854775808 ≤ vec) (q2 : vec ≤ 9223372036854775807) (how : Int) (q3 : -9223372036854775808 ≤ how) (q4 : how ≤ 9223372036854775807) (soft : Bool) (hsf : soft = false) (hw : vecN how % 4 = ((3 : Nat) : Int)) (w : World) :
    Calls Tryz.prog 8 #[.int .i64 vec, .int .i64 how, .bool soft] w fun e w' => e = .returned (.bool true) ∧ Below w.heap.size w w' := by
 have HSF := Lib.hid hsf
 clear hsf
 obtain ⟨m, hm, hv⟩ := vecN_mod vec 64 (by decide)
 have HM := Lib.hid (And.intro hm (And.intro hv (And.intro (show (3 : Nat) < 4 by decide) hw)))
 have z0 := vecN_pos vec
 have z1 : vecN vec ≤ 9223372036854775807 := by unfold vecN; split <;> omega
 have y0 := vecN_pos how
 have y1 : vecN how ≤ 9223372036854775807 := by unfold vecN; split <;> omega
 have HZ := Lib.hid (And.intro z0 (And.intro z1 (And.intro y0 y1)))
 clear hm hv hw z0 z1 y0 y1
 go_enter Tryz.func8, Tryz.ntmps8
 go_wp2_with fail
 refine (awake18 _).mono ?_
 rintro e w1 ⟨rfl, hb1⟩
 have HB1 := Lib.hid hb1
 clear hb1
 go_upto_if 19 with (fail)
 go_cut [0] from 20 (fun y wc => y = .int .i64 (vecN vec) ∧ w1 = wc)
 case first =>
  by_cases hneg : vec < 0
  ·have hn : vecN vec = -(vec + 1) := if_pos hneg
   go_wp2_with fail
   go_meet
   exact ⟨by rw [hn], rfl⟩
  ·have hn : vecN vec = vec := if_neg hneg
   go_wp2_with fail
   go_meet
   exact ⟨by rw [hn], rfl⟩
 case rest =>
  obtain ⟨rfl, rfl⟩ := hcut
  go_upto_if 24 with (fail)
  go_cut [1] from 25 (fun y wc => y = .int .i64 (vecN how) ∧ w1 = wc)
  case first =>
   by_cases hneg : how < 0
   ·have hn : vecN how = -(how + 1) := if_pos hneg
    go_wp2_with fail
    go_meet
    exact ⟨by rw [hn], rfl⟩
   ·have hn : vecN how = how := if_neg hneg
    go_wp2_with fail
    go_meet
    exact ⟨by rw [hn], rfl⟩
  case rest =>
   obtain ⟨rfl, rfl⟩ := hcut
   have hr : (vecN vec).tmod 64 = ((m : Nat) : Int) := by rw [Int.tmod_eq_emod_of_nonneg HZ.out.1]; exact HM.out.2.1
   have hr2 : vecN vec % 64 = ((m : Nat) : Int) := HM.out.2.1
   have hs : (vecN how).tmod 4 = ((3 : Nat) : Int) := by rw [Int.tmod_eq_emod_of_nonneg HZ.out.2.2.1]; exact HM.out.2.2.2
   have hs2 : vecN how % 4 = ((3 : Nat) : Int) := HM.out.2.2.2
   obtain ⟨z0, z1, y0, y1⟩ := HZ.out
   have hm64 := HM.out.1
   generalize vecN vec = z at *
   generalize vecN how = y at *
   go_upto_region 11 with (fail)
   have hb2 : Below w.heap.size w (w1.alloc (.cells #[.int .u32 3584, .int .u32 35840, .int .u32 40448, .int .u32 36352] 22)) := HB1.out.alloc HB1.out.size _
   have HB2 := Lib.hid hb2
   go_wp2_with fail
   refine (started3 36352 (by decide) _).mono ?_
   rintro e w3 ⟨eb, vb, bb, pm, rfl, T3⟩
   have HT3 := Lib.hid (show Hp w (fun _ => False) w3 [oEn eb vb bb ⟨8, pm⟩ 0 (startS 3 36352)] from ((Hp.zero w).grow HB2.out).join T3)
   clear T3 hb2 HB1 HB2
   go_upto_if 47 with (fail)
   go_cut [11] from 48 (fun y wc => y = .int .i64 (xOf soft) ∧ w3 = wc)
   case first =>
    cases soft
    ·go_wp2_with fail
     go_meet
     exact ⟨rfl, rfl⟩
    ·go_wp2_with fail
     go_meet
     exact ⟨rfl, rfl⟩
   case rest =>
    obtain ⟨rfl, rfl⟩ := hcut
    have hsf := HSF.out
    subst hsf
    obtain ⟨C1, R1, he1, hc4, hcs⟩ := let_one m HM.out.1
    have hx01 : 0 ≤ xOf false ∧ xOf false ≤ 1 := by exact ⟨by decide, by decide⟩
    obtain ⟨x, hx⟩ : ∃ x, x = xOf false := ⟨_, rfl⟩
    rw [← hx] at hx01
    rw [← hx]
    have HE := Lib.hid (And.intro he1 (And.intro hc4 hcs))
    clear he1 hx hc4 hcs
    have hm64 := HM.out.1
    obtain ⟨hx0, hx1⟩ := hx01
    have HT4 := Lib.hid (show Hp w (fun _ => False) (w3.alloc (.cells #[.int .i64 13, .int .i64 (8 * (m : Int) + 2 + x), .int .u32 0] 42)) [oEn eb vb bb ⟨8, pm⟩ 0 (startS 3 36352), Ob.box w3.heap.size (.cells #[.int .i64 13, .int .i64 (8 * (m : Int) + 2 + x), .int .u32 0] 42)] from HT3.out.make _)
    go_upto_region 20 with (fail)
    have HT5 := HT4
    change Code.wp _ _ _ _ (w3.alloc (.cells #[.int .i64 13, .int .i64 (8 * (m : Int) + 2 + x), .int .u32 0] 42))
    generalize w3.alloc (.cells #[.int .i64 13, .int .i64 (8 * (m : Int) + 2 + x), .int .u32 0] 42) = w4 at *
    generalize w3.heap.size = ab at *
    clear HT3 HT4
    have HR := Lib.hid (env_range HT5.out)
    change Hid (w4.rangeAt eb 0 (startC 3).cells) at HR
    have HN := Lib.hid (heap_new w4 (.cells zero83C 36))
    have hz := fun w => zero83 w
    have hlen : (Tryz.prog.info? 36).map (·.size) = some (startC 3).cells.length := by rw [(startC 3).cells_len]; exact info83
    have hone := cells_one (startC 3)
    have hsz : (startC 3).cells.toArray.size = 83 := by rw [List.size_toArray]; exact (startC 3).cells_len
    have heq := eq_cpu (startC 3)
    obtain ⟨cL, hcL⟩ : ∃ cL, cL = (startC 3).cells := ⟨_, rfl⟩
    rw [← hcL] at HR hlen hone hsz heq
    have HX := Lib.hid (And.intro hlen (And.intro hone (And.intro hsz (And.intro heq hcL))))
    clear hlen hone hsz heq hcL
    have HT6 := Lib.hid (show Hp w (fun _ => False) (w4.alloc (.cells cL.toArray 36)) [oEn eb vb bb ⟨8, pm⟩ 0 (startS 3 36352), Ob.box ab (.cells #[.int .i64 13, .int .i64 (8 * (m : Int) + 2 + x), .int .u32 0] 42), Ob.box w4.heap.size (.cells cL.toArray 36)] from HT5.out.make _)
    go_upto_region 21 with (first | (refine wpList_load_mid rfl _ _ rfl eb 0 rfl cL _ HR.out Tryz.underlying36 rfl HX.out.1 ?_) | (refine wpList_store_row rfl _ _ _ rfl w4.heap.size cL.toArray rfl rfl _ _ HN.out (by rw [HX.out.2.2.1]; exact info83) (by rw [HX.out.2.2.1]; rfl) HX.out.2.1 ?_))
    change Code.wp _ _ _ _ ((w4.alloc (.cells zero83C 36)).setRow w4.heap.size cL.toArray)
    rw [World.setRow_alloc_new]
    clear HR HN hz HT5
    generalize w4.alloc (.cells cL.toArray 36) = w5 at *
    generalize w4.heap.size = cb at *
    go_wp2_with fail
    refine (HT6.out.act 0 rfl (enter_x (m : Nat) (-1) false (by decide))).mono ?_
    rw [HE.out.1]
    rintro e w6 ⟨he, T6⟩
    change e = .returned (.agg #[.int .i64 (-1), .int .i64 (-1), .int .u32 0]) at he
    subst he
    have HT7 := Lib.hid (show Hp w (fun _ => False) w6 [oEn eb vb bb ⟨8, pm⟩ 40 ⟨C1, R1⟩] from T6.left (l1 := [oEn eb vb bb ⟨8, pm⟩ 40 ⟨C1, R1⟩]))
    have HT8 := Lib.hid (HT7.out.alloc (.cells #[.int .i64 (-1), .int .i64 (-1), .int .u32 0] 42))
    clear T6 HT6
    have el := en_lt HT8.out
    have k19 := cell_at (k := 19) (en_heap HT8.out)
    have k4 := cell_at (k := 4) (en_heap HT8.out)
    rw [show (envCells C1 vb bb)[19]? = some (.int .u16 ((C1.seg 1).sel : Nat)) from rfl, HE.out.2.2] at k19
    rw [show (envCells C1 vb bb)[4]? = some (.int .u32 (C1.r 4 : Nat)) from rfl, HE.out.2.1] at k4
    go_wp2_with fail
    go_returns
    exact ⟨rfl, HT8.out.below⟩
end Go.Proofs.YtmpcafdgkbpneaaGreat
