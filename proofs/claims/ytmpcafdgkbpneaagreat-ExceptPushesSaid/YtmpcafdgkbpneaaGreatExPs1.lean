/- except's law Pushes: one kind of gate. -/
import Derived.Test.YtmpcafdgkbpneaaGreatTp
open List renaming getElem_toArray → lz0, getElem_cons_zero → lz1, getElem_cons_succ → lz2, setIfInBounds_toArray → lz3, set_cons_zero → lz4, set_cons_succ → lz5
namespace Go.Proofs.YtmpcafdgkbpneaaGreat
open Go.RowKit Go.MapKept
set_option linter.unusedVariables false
set_option linter.unusedSimpArgs false
attribute [local go_sem ↓] Go.wp_at_zero Go.wp_at_succ
set_option maxRecDepth 100000 in
set_option maxHeartbeats 16000000 in
theorem pushes_1 (trap : Bool) (vec : Int) (q1 : -9223372036854775808 ≤ vec) (q2 : vec ≤ 9223372036854775807) (code : Int) (q3 : -9223372036854775808 ≤ code) (q4 : code ≤ 9223372036854775807) (hc : 0 ≤ code) (fl : Nat) (hfl : fl < 4294967296) (P : Nat) (hP : P < 4294967296) (w : World) :
    Calls Tryz.prog 3 #[.int .i64 vec, .int .i64 code, .bool trap, .int .u32 (fl : Nat), .int .u32 (P : Nat)] w fun e w' => e = .returned (.bool true) ∧ Below w.heap.size w w' := by
 have HC := Lib.hid hc
 clear hc
 obtain ⟨m, hm, hv⟩ := vecN_mod vec 64 (by decide)
 have z1 : vecN vec ≤ 9223372036854775807 := by unfold vecN; split <;> omega
 have HM := Lib.hid (And.intro hm (And.intro hv z1))
 have HP := Lib.hid hP
 obtain ⟨F, hF⟩ : ∃ F, F = fl % 32768 ||| 2 := ⟨_, rfl⟩
 have hFl : F < 4294967296 := by rw [hF]; exact Nat.or_lt_two_pow (n := 32) (show fl % 32768 < 2 ^ 32 by omega) (by decide)
 have o1 : bits .or .u32 ((fl : Int) % 32768) 2 = ((F : Nat) : Int) := by
  have h := u32_or_nat (fl % 32768) 2 (by omega) (by decide)
  rw [hF]
  exact_mod_cast h
 have o2 : bits .andNot .u32 (F : Int) 16640 = ((clr F 16640 : Nat) : Int) := u32_andNot_nat F 16640 hFl (by decide)
 have o3 : bits .andNot .u32 ((clr F 16640 : Nat) : Int) 512 = ((clr (clr F 16640) 512 : Nat) : Int) := u32_andNot_nat (clr F 16640) 512 (pclr_lt _ _ hFl) (by decide)
 have HF := Lib.hid (And.intro hFl (And.intro o1 (And.intro o2 o3)))
 clear hm hv z1 hP hF hFl o1 o2 o3
 go_enter Tryz.func3, Tryz.ntmps3
 go_wp2_with fail
 refine (awake18 _).mono ?_
 rintro e w1 ⟨rfl, hb1⟩
 have HB1 := Lib.hid hb1
 clear hb1
 go_upto_if 22 with (fail)
 go_cut [12] from 23 (fun y wc => y = .int .u32 (kdP trap : Nat) ∧ w1 = wc)
 case first =>
  cases trap
  ·go_wp2_with fail
   go_meet
   exact ⟨rfl, rfl⟩
  ·go_wp2_with fail
   go_meet
   exact ⟨rfl, rfl⟩
 case rest =>
  obtain ⟨rfl, rfl⟩ := hcut
  have KF := Lib.hid (kp_facts trap)
  have HTB := Lib.hid (kp_tabs trap)
  go_wp2_with fail
  refine (started0 (kdP trap) (by have := KF.out.2.2.2; omega) _).mono ?_
  rintro e w3 ⟨eb, vb, bb, pm, rfl, T3⟩
  have HT3 := Lib.hid (show Hp w (fun _ => False) w3 [oEn eb vb bb ⟨8, pm⟩ 0 ⟨startC 0, startR (kdP trap)⟩] from ((Hp.zero w).grow HB1.out).join T3)
  clear T3 HB1
  generalize startR (kdP trap) = R0 at *
  go_upto_if 32 with (fail)
  go_cut [0] from 33 (fun y wc => y = .int .i64 (vecN vec) ∧ w3 = wc)
  case first =>
   by_cases hneg : vec < 0
   ·have hn : vecN vec = -(vec + 1) := if_pos hneg
    go_wp2_with fail
    go_meet
    exact ⟨by rw [hn], rfl⟩
   ·have hn : vecN vec = vec := if_neg hneg
    go_wp2_with fail
    go_meet
    exact ⟨by rw [hn], rfl⟩
  case rest =>
   obtain ⟨rfl, rfl⟩ := hcut
   have z0 := vecN_pos vec
   have hr : (vecN vec).tmod 64 = ((m : Nat) : Int) := by rw [Int.tmod_eq_emod_of_nonneg z0]; exact HM.out.2.1
   have hr2 : vecN vec % 64 = ((m : Nat) : Int) := HM.out.2.1
   have z1 := HM.out.2.2
   have hm64 := HM.out.1
   generalize vecN vec = z at *
   have el := en_lt HT3.out
   have ef := fun k => free_at (k := k) (en_heap HT3.out)
   have k8 := cell_at (k := 8) (en_heap HT3.out)
   rw [show (envCells (startC 0) vb bb)[8]? = some (.int .u32 256) from rfl] at k8
   have k9 := cell_at (k := 9) (en_heap HT3.out)
   rw [show (envCells (startC 0) vb bb)[9]? = some (.int .u32 514) from rfl] at k9
   have hck := (HT3.out.cpu 0 rfl).1
   have HT4 := Lib.hid (show Hp w (fun _ => False) (w3.setCell ⟨eb, 9, none⟩ (.int .u32 (F : Nat))) [oEn eb vb bb ⟨8, pm⟩ 0 ⟨({ startC 0 with flags := F } : CpuS), R0⟩] from HT3.out.setC 0 rfl 9 _ (env_fl _ vb bb F) ⟨hck.r, hck.eip, HF.out.1, hck.seg, hck.cr0, hck.cr2, hck.cr3, hck.gb, hck.gl, hck.ib, hck.il, hck.tr⟩)
   have hck4 := (HT4.out.cpu 0 rfl).1
   have HT5 := Lib.hid (show Hp w (fun _ => False) ((w3.setCell ⟨eb, 9, none⟩ (.int .u32 (F : Nat))).setCell ⟨eb, 8, none⟩ (.int .u32 (P : Nat))) [oEn eb vb bb ⟨8, pm⟩ 0 ⟨pushC F P, R0⟩] from HT4.out.setC 0 rfl 8 _ (env_ip _ vb bb P) ⟨hck4.r, HP.out, hck4.flags, hck4.seg, hck4.cr0, hck4.cr2, hck4.cr3, hck4.gb, hck4.gl, hck4.ib, hck4.il, hck4.tr⟩)
   have o1 := HF.out.2.1
   go_upto_region 13 with (fail)
   change Code.wp _ _ _ _ ((w3.setCell ⟨eb, 9, none⟩ (.int .u32 (F : Nat))).setCell ⟨eb, 8, none⟩ (.int .u32 (P : Nat)))
   generalize ((w3.setCell ⟨eb, 9, none⟩ (.int .u32 (F : Nat))).setCell ⟨eb, 8, none⟩ (.int .u32 (P : Nat))) = w5 at *
   clear HT3 HT4 el ef k8 k9 hck hck4 o1
   have he1 := push_all (k := kP trap) HTB.out F P HM.out.1 code KF.out.1 KF.out.2.1 KF.out.2.2.1 KF.out.2.2.2
   have hrd := R4_reads HTB.out HF.out.1 HP.out code
   have hD : (pushD F P m (kP trap) code).eip = 24576 + 16 * m ∧ (pushD F P m (kP trap) code).r 4 = E4 36848 code ∧ (pushD F P m (kP trap) code).flags = wantP trap F ∧ (pushD F P m (kP trap) code).r 0 = 0 := ⟨rfl, rfl, by cases trap <;> rfl, rfl⟩
   generalize R4 R0 36848 F 8 P code = R1 at *
   generalize pushD F P m (kP trap) code = D at *
   have HE := Lib.hid (And.intro he1 (And.intro hrd hD))
   clear he1 hrd hD
   have HR := Lib.hid (env_range HT5.out)
   change Hid (w5.rangeAt eb 0 (pushC F P).cells) at HR
   have HN := Lib.hid (heap_new w5 (.cells zero83C 36))
   have hz := fun w => zero83 w
   have hlen : (Tryz.prog.info? 36).map (·.size) = some (pushC F P).cells.length := by rw [(pushC F P).cells_len]; exact info83
   have hone := cells_one (pushC F P)
   have hsz : (pushC F P).cells.toArray.size = 83 := by rw [List.size_toArray]; exact (pushC F P).cells_len
   have hcp : (pushC F P).cells.toArray[8]? = some (.int .u32 (P : Nat)) ∧ (pushC F P).cells.toArray[9]? = some (.int .u32 (F : Nat)) ∧ (pushC F P).cells.toArray[0]? = some (.int .u32 0) := ⟨rfl, rfl, rfl⟩
   obtain ⟨cL, hcL⟩ : ∃ cL, cL = (pushC F P).cells := ⟨_, rfl⟩
   rw [← hcL] at HR hlen hone hsz hcp
   have HX := Lib.hid (And.intro hlen (And.intro hone (And.intro hsz hcp)))
   clear hlen hone hsz hcL hcp
   have HT6 := Lib.hid (show Hp w (fun _ => False) (w5.alloc (.cells cL.toArray 36)) [oEn eb vb bb ⟨8, pm⟩ 0 ⟨pushC F P, R0⟩, Ob.box w5.heap.size (.cells cL.toArray 36)] from HT5.out.make _)
   go_upto_region 14 with (first | (refine wpList_load_mid rfl _ _ rfl eb 0 rfl cL _ HR.out Tryz.underlying36 rfl HX.out.1 ?_) | (refine wpList_store_row rfl _ _ _ rfl w5.heap.size cL.toArray rfl rfl _ _ HN.out (by rw [HX.out.2.2.1]; exact info83) (by rw [HX.out.2.2.1]; rfl) HX.out.2.1 ?_))
   change Code.wp _ _ _ _ ((w5.alloc (.cells zero83C 36)).setRow w5.heap.size cL.toArray)
   rw [World.setRow_alloc_new]
   clear HR HN hz HT5
   generalize w5.alloc (.cells cL.toArray 36) = w6 at *
   generalize w5.heap.size = cb at *
   go_wp2_with fail
   refine (HT6.out.act 0 rfl (enter_x (m : Nat) code false (by decide))).mono ?_
   rw [HE.out.1]
   rintro e w7 ⟨he, T7⟩
   change e = .returned (.agg #[.int .i64 (-1), .int .i64 (-1), .int .u32 0]) at he
   subst he
   have HT7 := Lib.hid (show Hp w (fun _ => False) (w7.alloc (.cells #[.int .i64 (-1), .int .i64 (-1), .int .u32 0] 42)) [oEn eb vb bb ⟨8, pm⟩ 40 ⟨D, R1⟩, Ob.box cb (.cells cL.toArray 36), Ob.box w7.heap.size (.cells #[.int .i64 (-1), .int .i64 (-1), .int .u32 0] 42)] from T7.make _)
   clear T7 HT6
   go_upto_region 15 with (fail)
   change Code.wp _ _ _ _ (w7.alloc (.cells #[.int .i64 (-1), .int .i64 (-1), .int .u32 0] 42))
   generalize w7.alloc (.cells #[.int .i64 (-1), .int .i64 (-1), .int .u32 0] 42) = w8 at *
   generalize w7.heap.size = fb at *
   have c8 := (box_cells HT7.out (i := 1) rfl).1 8
   have c9 := (box_cells HT7.out (i := 1) rfl).1 9
   rw [HX.out.2.2.2.1] at c8
   rw [HX.out.2.2.2.2.1] at c9
   have cl := (box_cells HT7.out (i := 1) rfl).2.2
   have HT8 := Lib.hid (show Hp w (fun _ => False) (w8.alloc (.cells #[.int .u32 (P : Nat), .int .u32 8, .int .u32 (F : Nat)] 22)) [oEn eb vb bb ⟨8, pm⟩ 40 ⟨D, R1⟩, Ob.box cb (.cells cL.toArray 36), Ob.box fb (.cells #[.int .i64 (-1), .int .i64 (-1), .int .u32 0] 42), Ob.box w8.heap.size (.cells #[.int .u32 (P : Nat), .int .u32 8, .int .u32 (F : Nat)] 22)] from HT7.out.make _)
   go_upto_region 16 with (fail)
   change Code.wp _ _ _ _ (w8.alloc (.cells #[.int .u32 (P : Nat), .int .u32 8, .int .u32 (F : Nat)] 22))
   generalize w8.alloc (.cells #[.int .u32 (P : Nat), .int .u32 8, .int .u32 (F : Nat)] 22) = w9 at *
   generalize w8.heap.size = sb at *
   clear HT7 c8 c9 cl
   have s0 := (box_cells HT8.out (i := 3) rfl).1 0
   have s1 := (box_cells HT8.out (i := 3) rfl).1 1
   have s2 := (box_cells HT8.out (i := 3) rfl).1 2
   have sl := (box_cells HT8.out (i := 3) rfl).2.2
   simp at s0 s1 s2
   have hc := HC.out
   obtain ⟨cc, hcc⟩ : ∃ cc : Nat, cc = (code % 4294967296).toNat := ⟨_, rfl⟩
   have hci : code % 4294967296 = (cc : Int) := by rw [hcc]; omega
   have hccl : cc < 4294967296 := by omega
   have HCC := Lib.hid hcc
   clear hcc
   obtain ⟨i0, hi, hz0, hz1, hz2⟩ := info_parts info_u32
   have HOW := Lib.hid (show (w9.alloc (.cells #[.int .u32 (cc : Nat)] 22)).ownsRow w9.heap.size 22 1 (.slice (some ⟨w9.heap.size, 0, none⟩) 1 1) 1 [.int .u32 (cc : Nat)] from ⟨rfl, .inr ⟨w9.heap.size, 1, #[.int .u32 (cc : Nat)], rfl, Nat.le_refl _, heap_new w9 _, Nat.le_refl _, by unfold maxLen; omega, rfl, rfl⟩⟩)
   have HBA := Lib.hid (below_on (Below.refl w9.heap.size w9) (.cells #[.int .u32 (cc : Nat)] 22))
   have HSN := Lib.hid (show ∀ j u, [Value.int .u32 (P : Nat), .int .u32 8, .int .u32 (F : Nat)][j]? = some u → (w9.alloc (.cells #[.int .u32 (cc : Nat)] 22)).cell? ((⟨sb, 0, none⟩ : Addr).add j) = some u from fun j u hj => by
    rw [Addr.add_mid, Nat.zero_add, cell_at ((HT8.out.alloc _).box 3 rfl), List.getElem?_toArray]
    exact hj)
   have HI := Lib.hid (And.intro hi (And.intro hz0 (And.intro hz1 hz2)))
   clear hi hz0 hz1 hz2
   clear q1 q2 q3 q4 hm64 hr hr2 z0 z1 hccl
   have hcb : decide (0 ≤ code) = true := decide_eq_true hc
   go_upto_region 18 with (at_builtin; (try rw [hci]); refine wpList_append_own_at _ rfl _ _ 44 rfl w9.heap.size 22 i0 (.int .u32 0) 1 4 Tryz.underlying44 HI.out.1 HI.out.2.1 HI.out.2.2.1 HI.out.2.2.2 rfl (by decide) _ 1 _ rfl HOW.out ⟨sb, 0, none⟩ 3 3 [.int .u32 (P : Nat), .int .u32 8, .int .u32 (F : Nat)] rfl rfl HSN.out (words3_one P F) (by unfold maxLen; omega) (by omega) HBA.out.size ?_; intro v' wx hown1 hgrow1 _ _)
   have hbx : Below w9.heap.size w9 wx := HBA.out.grown hgrow1 HBA.out.size (fun b hb => (World.ownsRow.lt HOW.out b hb).1)
   have HTX := Lib.hid (HT8.out.grow hbx)
   obtain ⟨g, vc, rfl, gl, gr⟩ := row_read hown1 (by decide)
   have HRW := Lib.hid (show g < wx.heap.size ∧ ∀ j u, (WL code F P)[j]? = some u → wx.cell? ⟨g, j, none⟩ = some u from ⟨gl, fun j u hj => gr j u (by rw [WL, if_pos (by omega), ← HCC.out] at hj; exact hj)⟩)
   clear gl gr hown1 hgrow1 hbx HOW HBA HSN HI HT8 s0 s1 s2 sl hci
   have hDr : D.r 4 = 36848 := by rw [HE.out.2.2.2.1]; exact if_pos (by omega)
   have f0 := (box_cells HTX.out (i := 2) rfl).1 0
   have fl0 := (box_cells HTX.out (i := 2) rfl).2.2
   simp at f0
   have el := en_lt HTX.out
   have k4 := cell_at (k := 4) (en_heap HTX.out)
   rw [show (envCells D vb bb)[4]? = some (.int .u32 (D.r 4 : Nat)) from rfl, hDr] at k4
   go_wp2_with fail
   clear f0 fl0 k4 el
   go_loopw [17] (fun i wr => ∃ q : Nat, q ≤ 4 ∧ i = .int .i64 (q : Nat) ∧ Hp w (fun _ => False) wr [oEn eb vb bb ⟨8, pm⟩ 40 ⟨D, R1⟩, Ob.box cb (.cells cL.toArray 36), Ob.box fb (.cells #[.int .i64 (-1), .int .i64 (-1), .int .u32 0] 42), Ob.box sb (.cells #[.int .u32 (P : Nat), .int .u32 8, .int .u32 (F : Nat)] 22)] ∧ g < wr.heap.size ∧ ∀ j u, (WL code F P)[j]? = some u → wr.cell? ⟨g, j, none⟩ = some u) (fun i _ => 4 - (intOf i).toNat)
   case atStart => exact ⟨0, by omega, rfl, HTX.out, HRW.out.1, HRW.out.2⟩
   case round =>
    obtain ⟨q, hq, rfl, T, gl, gr⟩ := hrel
    by_cases hqn : q < 4
    ·have HTq := Lib.hid T
     have HGq := Lib.hid (And.intro gl gr)
     clear T gl gr
     have hwr : IntKind.i64.wrap (4 * (q : Int)) = 4 * (q : Int) := by rw [IntKind.wrap_i64]; omega
     go_upto_region 23 with (fail)
     have HH := Lib.hid (show Hp w (fun _ => False) wr.drew [oEn eb vb bb ⟨8, pm⟩ 40 ⟨D, R1⟩, Ob.box cb (.cells cL.toArray 36), Ob.box fb (.cells #[.int .i64 (-1), .int .i64 (-1), .int .u32 0] 42), Ob.box sb (.cells #[.int .u32 (P : Nat), .int .u32 8, .int .u32 (F : Nat)] 22)] ∧ (g < wr.drew.heap.size ∧ ∀ j u, (WL code F P)[j]? = some u → wr.drew.cell? ⟨g, j, none⟩ = some u) from ⟨HTq.out.drew, HGq.out⟩)
     refine wp_region_held_drew (S := fun w' => Hp w (fun _ => False) w' [oEn eb vb bb ⟨8, pm⟩ 40 ⟨D, R1⟩, Ob.box cb (.cells cL.toArray 36), Ob.box fb (.cells #[.int .i64 (-1), .int .i64 (-1), .int .u32 0] 42), Ob.box sb (.cells #[.int .u32 (P : Nat), .int .u32 8, .int .u32 (F : Nat)] 22)] ∧ (g < w'.heap.size ∧ ∀ j u, (WL code F P)[j]? = some u → w'.cell? ⟨g, j, none⟩ = some u)) (by kernel_rfl) HH.out (fun hHeld => ?_)
     refine wpAnyH_take (i := 0) (oi := _) (v := ?_) rfl (by kernel_rfl) (by kernel_rfl) (by kernel_rfl) (fun _ _ _ h => h) (Or.inl ⟨by rfl, ?_⟩) (by assumption) ?_
     rotate_left
     ·(intro w hSw; (try dsimp only at hSw); go_simp <;> rfl)
     simp only [Act.put, lz0, lz1, lz2, lz3, lz4, lz5]
     refine wpAnyH_take (i := 1) (oi := _) (v := ?_) rfl (by kernel_rfl) (by kernel_rfl) (by kernel_rfl) (fun _ _ _ h => h) (Or.inl ⟨by rfl, ?_⟩) (by assumption) ?_
     rotate_left
     ·(intro w hSw; have el := en_lt hSw.1; (try dsimp only at hSw); go_simp <;> rfl)
     simp only [Act.put, lz0, lz1, lz2, lz3, lz4, lz5]
     refine wpAnyH_take (i := 2) (oi := _) (v := ?_) rfl (by kernel_rfl) (by kernel_rfl) (by kernel_rfl) (fun _ _ _ h => h) (Or.inl ⟨by rfl, ?_⟩) (by assumption) ?_
     rotate_left
     ·(intro w hSw; have el := en_lt hSw.1; (try dsimp only at hSw); go_simp <;> rfl)
     simp only [Act.put, lz0, lz1, lz2, lz3, lz4, lz5]
     refine wpAnyH_take (i := 3) (oi := _) (v := ?_) rfl (by kernel_rfl) (by kernel_rfl) (by kernel_rfl) (fun _ _ _ h => h) (Or.inl ⟨by rfl, ?_⟩) (by assumption) ?_
     rotate_left
     ·(intro w hSw; have el := en_lt hSw.1; have ek := cell_at (k := 83) (en_heap hSw.1); rw [show (envCells D vb bb)[83]? = some (.pointer (some ⟨vb, 0, none⟩)) from rfl] at ek; (try dsimp only at hSw); go_simp <;> rfl)
     simp only [Act.put, lz0, lz1, lz2, lz3, lz4, lz5]
     refine wpAnyH_take (i := 5) (oi := _) (v := ?_) rfl (by kernel_rfl) (by kernel_rfl) (by kernel_rfl) (fun _ _ _ h => h) (Or.inl ⟨by rfl, ?_⟩) (by assumption) ?_
     rotate_left
     ·(intro w hSw; (try dsimp only at hSw); go_simp <;> rfl)
     simp only [Act.put, lz0, lz1, lz2, lz3, lz4, lz5]
     refine wpAnyH_take (i := 6) (oi := _) (v := ?_) rfl (by kernel_rfl) (by kernel_rfl) (by kernel_rfl) (fun _ _ _ h => h) (Or.inl ⟨by rfl, ?_⟩) (by assumption) ?_
     rotate_left
     ·(intro w hSw; have el := en_lt hSw.1; (try dsimp only at hSw); go_simp <;> rfl)
     simp only [Act.put, lz0, lz1, lz2, lz3, lz4, lz5]
     refine wpAnyH_take (i := 7) (oi := _) (v := ?_) rfl (by kernel_rfl) (by kernel_rfl) (by kernel_rfl) (fun _ _ _ h => h) (Or.inl ⟨by rfl, ?_⟩) (by assumption) ?_
     rotate_left
     ·(intro w hSw; have el := en_lt hSw.1; (try dsimp only at hSw); go_simp <;> rfl)
     simp only [Act.put, lz0, lz1, lz2, lz3, lz4, lz5]
     refine wpAnyH_take (i := 8) (oi := _) (v := ?_) rfl (by kernel_rfl) (by kernel_rfl) (by kernel_rfl) (fun _ _ _ h => h) (Or.inl ⟨by rfl, ?_⟩) (by assumption) ?_
     rotate_left
     ·(intro w hSw; have el := en_lt hSw.1; (try dsimp only at hSw); go_simp <;> rfl)
     simp only [Act.put, lz0, lz1, lz2, lz3, lz4, lz5]
     refine wpAnyH_take (i := 9) (oi := _) (v := ?_) rfl (by kernel_rfl) (by kernel_rfl) (by kernel_rfl) (fun _ _ _ h => h) (Or.inl ⟨by rfl, ?_⟩) (by assumption) ?_
     rotate_left
     ·(intro w hSw; have el := en_lt hSw.1; (try dsimp only at hSw); go_simp <;> rfl)
     simp only [Act.put, lz0, lz1, lz2, lz3, lz4, lz5]
     refine wpAnyH_take (i := 10) (oi := _) (v := ?_) rfl (by kernel_rfl) (by kernel_rfl) (by kernel_rfl) (fun _ _ _ h => h) (Or.inl ⟨by rfl, ?_⟩) (by assumption) ?_
     rotate_left
     ·(intro w hSw; have el := en_lt hSw.1; have ek := cell_at (k := 4) (en_heap hSw.1); rw [show (envCells D vb bb)[4]? = some (.int .u32 (D.r 4 : Nat)) from rfl, hDr] at ek; (try dsimp only at hSw); go_simp <;> rfl)
     simp only [Act.put, lz0, lz1, lz2, lz3, lz4, lz5]
     refine wpAnyH_take (i := 11) (oi := _) (v := ?_) rfl (by kernel_rfl) (by kernel_rfl) (by kernel_rfl) (fun _ _ _ h => h) (Or.inl ⟨by rfl, ?_⟩) (by assumption) ?_
     rotate_left
     ·(intro w hSw; (try dsimp only at hSw); go_simp <;> rfl)
     simp only [Act.put, lz0, lz1, lz2, lz3, lz4, lz5]
     refine wpAnyH_take (i := 12) (oi := _) (v := .int .i64 (4 * (q : Int))) rfl (by kernel_rfl) (by kernel_rfl) (by kernel_rfl) (fun _ _ _ h => h) (Or.inl ⟨by rfl, ?_⟩) (by assumption) ?_
     ·(intro w hSw; (try dsimp only at hSw); go_simp <;> (first | rfl | exact hwr | (rw [hwr]) | (simp [hwr]; done)))
     simp only [Act.put, lz0, lz1, lz2, lz3, lz4, lz5]
     refine wpAnyH_take (i := 13) (oi := _) (v := .int .u32 (4 * (q : Int))) rfl (by kernel_rfl) (by kernel_rfl) (by kernel_rfl) (fun _ _ _ h => h) (Or.inl ⟨by rfl, ?_⟩) (by assumption) ?_
     ·(intro w hSw; (try dsimp only at hSw); go_simp <;> (first | rfl | omega | (rw [IntKind.wrap_u32]; omega) | (rw [IntKind.wrap_i64]; omega) | (simp; done)))
     simp only [Act.put, lz0, lz1, lz2, lz3, lz4, lz5]
     refine wpAnyH_take (i := 14) (oi := _) (v := .int .u32 ((36848 + 4 * q : Nat) : Int)) rfl (by kernel_rfl) (by kernel_rfl) (by kernel_rfl) (fun _ _ _ h => h) (Or.inl ⟨by rfl, ?_⟩) (by assumption) ?_
     ·(intro w hSw; (try dsimp only at hSw); go_simp <;> (first | rfl | omega | (rw [IntKind.wrap_u32]; omega) | (rw [IntKind.wrap_i64]; omega) | (simp; done)))
     simp only [Act.put, lz0, lz1, lz2, lz3, lz4, lz5]
     refine wpAnyH_ready (rs := [4]) (by kernel_rfl) (by decide) (AllReadyH.cons rfl (fun K hK => ?_) AllReadyH.nil)
     go_simp
     obtain ⟨A5, H5, E5, e5⟩ := hHeld.1.get 0 rfl
     refine (vram_any E5.vm).mono ?_
     rintro e w6 ⟨⟨rfl, S5, M5⟩, rfl⟩
     refine hK.out _ _ hHeld (fun hHeld => ?_)
     clear hK K
     try simp only [Act.put, lz0, lz1, lz2, lz3, lz4, lz5]
     refine wpAnyH_ready (rs := [15]) (by kernel_rfl) (by decide) (AllReadyH.cons rfl (fun K hK => ?_) AllReadyH.nil)
     go_simp
     obtain ⟨A5, H5, E5, e5⟩ := hHeld.1.get 0 rfl
     obtain ⟨S5, M5⟩ := ram_of E5.vm
     refine (read_4 M5 (36848 + 4 * q) (by omega)).mono ?_
     rintro e w6 ⟨rfl, n6, hw6⟩
     have hS6 : Hp w (fun _ => False) w6 [oEn eb vb bb ⟨8, pm⟩ 40 ⟨D, R1⟩, Ob.box cb (.cells cL.toArray 36), Ob.box fb (.cells #[.int .i64 (-1), .int .i64 (-1), .int .u32 0] 42), Ob.box sb (.cells #[.int .u32 (P : Nat), .int .u32 8, .int .u32 (F : Nat)] 22)] ∧ (g < w6.heap.size ∧ ∀ j u, (WL code F P)[j]? = some u → w6.cell? ⟨g, j, none⟩ = some u) := by rw [hw6]; exact ⟨hHeld.1.drewN n6, hHeld.2⟩
     clear hw6 hHeld
     refine hK.out _ _ hS6 (fun hHeld => ?_)
     clear hK K
     try simp only [Act.put, lz0, lz1, lz2, lz3, lz4, lz5]
     refine wpAnyH_take (i := 16) (oi := _) (v := ?_) rfl (by kernel_rfl) (by kernel_rfl) (by kernel_rfl) (fun _ _ _ h => h) (Or.inl ⟨by rfl, ?_⟩) (by assumption) ?_
     rotate_left
     ·(intro w hSw; (try dsimp only at hSw); go_simp <;> rfl)
     simp only [Act.put, lz0, lz1, lz2, lz3, lz4, lz5]
     refine wpAnyH_take (i := 17) (oi := _) (v := ?_) rfl (by kernel_rfl) (by kernel_rfl) (by kernel_rfl) (fun _ _ _ h => h) (Or.inl ⟨by rfl, ?_⟩) (by assumption) ?_
     rotate_left
     ·(intro w hSw; (try dsimp only at hSw); go_simp <;> rfl)
     simp only [Act.put, lz0, lz1, lz2, lz3, lz4, lz5]
     refine wpAnyH_take (i := 18) (oi := _) (v := ?_) rfl (by kernel_rfl) (by kernel_rfl) (by kernel_rfl) (fun _ _ _ h => h) (Or.inl ⟨by rfl, ?_⟩) (by assumption) ?_
     rotate_left
     ·(intro w hSw; (try dsimp only at hSw); go_simp <;> rfl)
     simp only [Act.put, lz0, lz1, lz2, lz3, lz4, lz5]
     refine wpAnyH_take (i := 19) (oi := _) (v := ?_) rfl (by kernel_rfl) (by kernel_rfl) (by kernel_rfl) (fun _ _ _ h => h) (Or.inl ⟨by rfl, ?_⟩) (by assumption) ?_
     rotate_left
     ·(intro w hSw; (try dsimp only at hSw); go_simp <;> rfl)
     simp only [Act.put, lz0, lz1, lz2, lz3, lz4, lz5]
     refine wpAnyH_take (i := 20) (oi := _) (v := ?_) rfl (by kernel_rfl) (by kernel_rfl) (by kernel_rfl) (fun _ _ _ h => h) (Or.inl ⟨by rfl, ?_⟩) (by assumption) ?_
     rotate_left
     ·(intro w hSw; (try dsimp only at hSw); go_simp <;> rfl)
     simp only [Act.put, lz0, lz1, lz2, lz3, lz4, lz5]
     refine wpAnyH_done (by kernel_rfl) ?_ _
     have hv := word4 HE.out.2.1 (by omega) q hqn
     have gc := hHeld.2.2 q _ hv
     have gl := hHeld.2.1
     have HTr := Lib.hid hHeld
     clear hHeld HH HTq HGq
     generalize R1.read (36848 + 4 * q) 4 = rv at *
     go_wp2_with fail
     exact ⟨by first | exact ⟨q + 1, by omega, by go_num, HTr.out.1, HTr.out.2⟩ | exact ⟨q + 1, by omega, by omega, HTr.out.2.2⟩, by show 4 - ((q : Int) + 1).toNat < 4 - ((q : Int)).toNat; omega⟩
    ·have hqe : q = 4 := by omega
     subst hqe
     have HTq := Lib.hid T
     clear T gl gr HTX HRW
     have c9 := (box_cells HTq.out (i := 1) rfl).1 9
     rw [HX.out.2.2.2.2.1] at c9
     have cl := (box_cells HTq.out (i := 1) rfl).2.2
     have a1 := HF.out.2.2.1
     have a2 := HF.out.2.2.2
     go_upto_if 122 with (fail)
     go_cut [20] from 123 (fun y wc => y = .int .u32 (wantP trap F : Nat) ∧ wr = wc)
     case first =>
      cases trap
      ·go_wp2_with fail
       go_meet
       exact ⟨rfl, rfl⟩
      ·go_wp2_with fail
       go_meet
       exact ⟨rfl, rfl⟩
     case rest =>
      obtain ⟨rfl, rfl⟩ := hcut
      clear a1 a2 c9 cl
      go_upto_region 29 with (fail)
      have HH := Lib.hid HTq.out.drew
      refine wp_region_held_drew (S := fun w' => Hp w (fun _ => False) w' [oEn eb vb bb ⟨8, pm⟩ 40 ⟨D, R1⟩, Ob.box cb (.cells cL.toArray 36), Ob.box fb (.cells #[.int .i64 (-1), .int .i64 (-1), .int .u32 0] 42), Ob.box sb (.cells #[.int .u32 (P : Nat), .int .u32 8, .int .u32 (F : Nat)] 22)]) (by kernel_rfl) HH.out (fun hHeld => ?_)
      refine wpAnyH_take (i := 0) (oi := _) (v := ?_) rfl (by kernel_rfl) (by kernel_rfl) (by kernel_rfl) (fun _ _ _ h => h) (Or.inl ⟨by rfl, ?_⟩) (by assumption) ?_
      rotate_left
      ·(intro w hSw; (try dsimp only at hSw); go_simp <;> rfl)
      simp only [Act.put, lz0, lz1, lz2, lz3, lz4, lz5]
      refine wpAnyH_take (i := 1) (oi := _) (v := ?_) rfl (by kernel_rfl) (by kernel_rfl) (by kernel_rfl) (fun _ _ _ h => h) (Or.inl ⟨by rfl, ?_⟩) (by assumption) ?_
      rotate_left
      ·(intro w hSw; have el := en_lt hSw; (try dsimp only at hSw); go_simp <;> rfl)
      simp only [Act.put, lz0, lz1, lz2, lz3, lz4, lz5]
      refine wpAnyH_take (i := 2) (oi := _) (v := ?_) rfl (by kernel_rfl) (by kernel_rfl) (by kernel_rfl) (fun _ _ _ h => h) (Or.inl ⟨by rfl, ?_⟩) (by assumption) ?_
      rotate_left
      ·(intro w hSw; have el := en_lt hSw; (try dsimp only at hSw); go_simp <;> rfl)
      simp only [Act.put, lz0, lz1, lz2, lz3, lz4, lz5]
      refine wpAnyH_take (i := 3) (oi := _) (v := ?_) rfl (by kernel_rfl) (by kernel_rfl) (by kernel_rfl) (fun _ _ _ h => h) (Or.inl ⟨by rfl, ?_⟩) (by assumption) ?_
      rotate_left
      ·(intro w hSw; have el := en_lt hSw; (try dsimp only at hSw); go_simp <;> rfl)
      simp only [Act.put, lz0, lz1, lz2, lz3, lz4, lz5]
      refine wpAnyH_take (i := 4) (oi := _) (v := ?_) rfl (by kernel_rfl) (by kernel_rfl) (by kernel_rfl) (fun _ _ _ h => h) (Or.inl ⟨by rfl, ?_⟩) (by assumption) ?_
      rotate_left
      ·(intro w hSw; have el := en_lt hSw; have ek := cell_at (k := 9) (en_heap hSw); rw [show (envCells D vb bb)[9]? = some (.int .u32 (D.flags : Nat)) from rfl, HE.out.2.2.2.2.1] at ek; (try dsimp only at hSw); go_simp <;> rfl)
      simp only [Act.put, lz0, lz1, lz2, lz3, lz4, lz5]
      refine wpAnyH_take (i := 5) (oi := _) (v := ?_) rfl (by kernel_rfl) (by kernel_rfl) (by kernel_rfl) (fun _ _ _ h => h) (Or.inl ⟨by rfl, ?_⟩) (by assumption) ?_
      rotate_left
      ·(intro w hSw; (try dsimp only at hSw); go_simp <;> rfl)
      simp only [Act.put, lz0, lz1, lz2, lz3, lz4, lz5]
      refine wpAnyH_take (i := 6) (oi := _) (v := .bool true) rfl (by kernel_rfl) (by kernel_rfl) (by kernel_rfl) (fun _ _ _ h => h) (Or.inl ⟨by rfl, ?_⟩) (by assumption) ?_
      ·(intro w hSw; (try dsimp only at hSw); go_simp <;> simp)
      simp only [Act.put, lz0, lz1, lz2, lz3, lz4, lz5]
      refine wpAnyH_take (i := 7) (oi := _) (v := ?_) rfl (by kernel_rfl) (by kernel_rfl) (by kernel_rfl) (fun _ _ _ h => h) (Or.inl ⟨by rfl, ?_⟩) (by assumption) ?_
      rotate_left
      ·(intro w hSw; (try dsimp only at hSw); go_simp <;> rfl)
      simp only [Act.put, lz0, lz1, lz2, lz3, lz4, lz5]
      refine wpAnyH_take (i := 8) (oi := _) (v := ?_) rfl (by kernel_rfl) (by kernel_rfl) (by kernel_rfl) (fun _ _ _ h => h) (Or.inl ⟨by rfl, ?_⟩) (by assumption) ?_
      rotate_left
      ·(intro w hSw; (try dsimp only at hSw); go_simp <;> rfl)
      simp only [Act.put, lz0, lz1, lz2, lz3, lz4, lz5]
      refine wpAnyH_take (i := 9) (oi := _) (v := ?_) rfl (by kernel_rfl) (by kernel_rfl) (by kernel_rfl) (fun _ _ _ h => h) (Or.inl ⟨by rfl, ?_⟩) (by assumption) ?_
      rotate_left
      ·(intro w hSw; have el := en_lt hSw; (try dsimp only at hSw); go_simp <;> rfl)
      simp only [Act.put, lz0, lz1, lz2, lz3, lz4, lz5]
      refine wpAnyH_take (i := 10) (oi := _) (v := ?_) rfl (by kernel_rfl) (by kernel_rfl) (by kernel_rfl) (fun _ _ _ h => h) (Or.inl ⟨by rfl, ?_⟩) (by assumption) ?_
      rotate_left
      ·(intro w hSw; have el := en_lt hSw; (try dsimp only at hSw); go_simp <;> rfl)
      simp only [Act.put, lz0, lz1, lz2, lz3, lz4, lz5]
      refine wpAnyH_take (i := 11) (oi := _) (v := ?_) rfl (by kernel_rfl) (by kernel_rfl) (by kernel_rfl) (fun _ _ _ h => h) (Or.inl ⟨by rfl, ?_⟩) (by assumption) ?_
      rotate_left
      ·(intro w hSw; have el := en_lt hSw; (try dsimp only at hSw); go_simp <;> rfl)
      simp only [Act.put, lz0, lz1, lz2, lz3, lz4, lz5]
      refine wpAnyH_take (i := 12) (oi := _) (v := ?_) rfl (by kernel_rfl) (by kernel_rfl) (by kernel_rfl) (fun _ _ _ h => h) (Or.inl ⟨by rfl, ?_⟩) (by assumption) ?_
      rotate_left
      ·(intro w hSw; have el := en_lt hSw; have ek := cell_at (k := 8) (en_heap hSw); rw [show (envCells D vb bb)[8]? = some (.int .u32 (D.eip : Nat)) from rfl, HE.out.2.2.1] at ek; push_cast at ek; (try dsimp only at hSw); go_simp <;> rfl)
      simp only [Act.put, lz0, lz1, lz2, lz3, lz4, lz5]
      refine wpAnyH_take (i := 13) (oi := _) (v := ?_) rfl (by kernel_rfl) (by kernel_rfl) (by kernel_rfl) (fun _ _ _ h => h) (Or.inl ⟨by rfl, ?_⟩) (by assumption) ?_
      rotate_left
      ·(intro w hSw; (try dsimp only at hSw); go_simp <;> rfl)
      simp only [Act.put, lz0, lz1, lz2, lz3, lz4, lz5]
      refine wpAnyH_take (i := 14) (oi := _) (v := .int .i64 (16 * (m : Int))) rfl (by kernel_rfl) (by kernel_rfl) (by kernel_rfl) (fun _ _ _ h => h) (Or.inl ⟨by rfl, ?_⟩) (by assumption) ?_
      ·(intro w hSw; have hm64 := HM.out.1; (try dsimp only at hSw); go_simp <;> (first | rfl | omega | (rw [IntKind.wrap_u32]; omega) | (rw [IntKind.wrap_i64]; omega) | (simp; done)))
      simp only [Act.put, lz0, lz1, lz2, lz3, lz4, lz5]
      refine wpAnyH_take (i := 15) (oi := _) (v := .int .i64 (24576 + 16 * (m : Int))) rfl (by kernel_rfl) (by kernel_rfl) (by kernel_rfl) (fun _ _ _ h => h) (Or.inl ⟨by rfl, ?_⟩) (by assumption) ?_
      ·(intro w hSw; have hm64 := HM.out.1; (try dsimp only at hSw); go_simp <;> (first | rfl | omega | (rw [IntKind.wrap_u32]; omega) | (rw [IntKind.wrap_i64]; omega) | (simp; done)))
      simp only [Act.put, lz0, lz1, lz2, lz3, lz4, lz5]
      refine wpAnyH_take (i := 16) (oi := _) (v := .int .u32 (24576 + 16 * (m : Int))) rfl (by kernel_rfl) (by kernel_rfl) (by kernel_rfl) (fun _ _ _ h => h) (Or.inl ⟨by rfl, ?_⟩) (by assumption) ?_
      ·(intro w hSw; have hm64 := HM.out.1; (try dsimp only at hSw); go_simp <;> (first | rfl | omega | (rw [IntKind.wrap_u32]; omega) | (rw [IntKind.wrap_i64]; omega) | (simp; done)))
      simp only [Act.put, lz0, lz1, lz2, lz3, lz4, lz5]
      refine wpAnyH_take (i := 17) (oi := _) (v := .bool true) rfl (by kernel_rfl) (by kernel_rfl) (by kernel_rfl) (fun _ _ _ h => h) (Or.inl ⟨by rfl, ?_⟩) (by assumption) ?_
      ·(intro w hSw; (try dsimp only at hSw); go_simp <;> simp)
      simp only [Act.put, lz0, lz1, lz2, lz3, lz4, lz5]
      refine wpAnyH_take (i := 18) (oi := _) (v := ?_) rfl (by kernel_rfl) (by kernel_rfl) (by kernel_rfl) (fun _ _ _ h => h) (Or.inl ⟨by rfl, ?_⟩) (by assumption) ?_
      rotate_left
      ·(intro w hSw; (try dsimp only at hSw); go_simp <;> rfl)
      simp only [Act.put, lz0, lz1, lz2, lz3, lz4, lz5]
      refine wpAnyH_take (i := 19) (oi := _) (v := ?_) rfl (by kernel_rfl) (by kernel_rfl) (by kernel_rfl) (fun _ _ _ h => h) (Or.inl ⟨by rfl, ?_⟩) (by assumption) ?_
      rotate_left
      ·(intro w hSw; (try dsimp only at hSw); go_simp <;> rfl)
      simp only [Act.put, lz0, lz1, lz2, lz3, lz4, lz5]
      refine wpAnyH_take (i := 20) (oi := _) (v := ?_) rfl (by kernel_rfl) (by kernel_rfl) (by kernel_rfl) (fun _ _ _ h => h) (Or.inl ⟨by rfl, ?_⟩) (by assumption) ?_
      rotate_left
      ·(intro w hSw; (try dsimp only at hSw); go_simp <;> rfl)
      simp only [Act.put, lz0, lz1, lz2, lz3, lz4, lz5]
      refine wpAnyH_take (i := 21) (oi := _) (v := ?_) rfl (by kernel_rfl) (by kernel_rfl) (by kernel_rfl) (fun _ _ _ h => h) (Or.inl ⟨by rfl, ?_⟩) (by assumption) ?_
      rotate_left
      ·(intro w hSw; have el := en_lt hSw; (try dsimp only at hSw); go_simp <;> rfl)
      simp only [Act.put, lz0, lz1, lz2, lz3, lz4, lz5]
      refine wpAnyH_take (i := 22) (oi := _) (v := ?_) rfl (by kernel_rfl) (by kernel_rfl) (by kernel_rfl) (fun _ _ _ h => h) (Or.inl ⟨by rfl, ?_⟩) (by assumption) ?_
      rotate_left
      ·(intro w hSw; have el := en_lt hSw; (try dsimp only at hSw); go_simp <;> rfl)
      simp only [Act.put, lz0, lz1, lz2, lz3, lz4, lz5]
      refine wpAnyH_take (i := 23) (oi := _) (v := ?_) rfl (by kernel_rfl) (by kernel_rfl) (by kernel_rfl) (fun _ _ _ h => h) (Or.inl ⟨by rfl, ?_⟩) (by assumption) ?_
      rotate_left
      ·(intro w hSw; have el := en_lt hSw; (try dsimp only at hSw); go_simp <;> rfl)
      simp only [Act.put, lz0, lz1, lz2, lz3, lz4, lz5]
      refine wpAnyH_take (i := 24) (oi := _) (v := ?_) rfl (by kernel_rfl) (by kernel_rfl) (by kernel_rfl) (fun _ _ _ h => h) (Or.inl ⟨by rfl, ?_⟩) (by assumption) ?_
      rotate_left
      ·(intro w hSw; have el := en_lt hSw; (try dsimp only at hSw); go_simp <;> rfl)
      simp only [Act.put, lz0, lz1, lz2, lz3, lz4, lz5]
      refine wpAnyH_take (i := 25) (oi := _) (v := ?_) rfl (by kernel_rfl) (by kernel_rfl) (by kernel_rfl) (fun _ _ _ h => h) (Or.inl ⟨by rfl, ?_⟩) (by assumption) ?_
      rotate_left
      ·(intro w hSw; have el := en_lt hSw; have ek := cell_at (k := 0) (en_heap hSw); rw [show (envCells D vb bb)[0]? = some (.int .u32 (D.r 0 : Nat)) from rfl, HE.out.2.2.2.2.2] at ek; (try dsimp only at hSw); go_simp <;> rfl)
      simp only [Act.put, lz0, lz1, lz2, lz3, lz4, lz5]
      refine wpAnyH_take (i := 26) (oi := _) (v := ?_) rfl (by kernel_rfl) (by kernel_rfl) (by kernel_rfl) (fun _ _ _ h => h) (Or.inl ⟨by rfl, ?_⟩) (by assumption) ?_
      rotate_left
      ·(intro w hSw; have cl := (box_cells hSw (i := 1) rfl).2.2; (try dsimp only at hSw); go_simp <;> rfl)
      simp only [Act.put, lz0, lz1, lz2, lz3, lz4, lz5]
      refine wpAnyH_take (i := 27) (oi := _) (v := ?_) rfl (by kernel_rfl) (by kernel_rfl) (by kernel_rfl) (fun _ _ _ h => h) (Or.inl ⟨by rfl, ?_⟩) (by assumption) ?_
      rotate_left
      ·(intro w hSw; have cl := (box_cells hSw (i := 1) rfl).2.2; (try dsimp only at hSw); go_simp <;> rfl)
      simp only [Act.put, lz0, lz1, lz2, lz3, lz4, lz5]
      refine wpAnyH_take (i := 28) (oi := _) (v := ?_) rfl (by kernel_rfl) (by kernel_rfl) (by kernel_rfl) (fun _ _ _ h => h) (Or.inl ⟨by rfl, ?_⟩) (by assumption) ?_
      rotate_left
      ·(intro w hSw; have cl := (box_cells hSw (i := 1) rfl).2.2; have ck := (box_cells hSw (i := 1) rfl).1 0; rw [HX.out.2.2.2.2.2] at ck; (try dsimp only at hSw); go_simp <;> rfl)
      simp only [Act.put, lz0, lz1, lz2, lz3, lz4, lz5]
      refine wpAnyH_take (i := 29) (oi := _) (v := .bool true) rfl (by kernel_rfl) (by kernel_rfl) (by kernel_rfl) (fun _ _ _ h => h) (Or.inl ⟨by rfl, ?_⟩) (by assumption) ?_
      ·(intro w hSw; (try dsimp only at hSw); go_simp <;> simp)
      simp only [Act.put, lz0, lz1, lz2, lz3, lz4, lz5]
      refine wpAnyH_take (i := 30) (oi := _) (v := ?_) rfl (by kernel_rfl) (by kernel_rfl) (by kernel_rfl) (fun _ _ _ h => h) (Or.inl ⟨by rfl, ?_⟩) (by assumption) ?_
      rotate_left
      ·(intro w hSw; (try dsimp only at hSw); go_simp <;> rfl)
      simp only [Act.put, lz0, lz1, lz2, lz3, lz4, lz5]
      refine wpAnyH_take (i := 31) (oi := _) (v := ?_) rfl (by kernel_rfl) (by kernel_rfl) (by kernel_rfl) (fun _ _ _ h => h) (Or.inl ⟨by rfl, ?_⟩) (by assumption) ?_
      rotate_left
      ·(intro w hSw; (try dsimp only at hSw); go_simp <;> rfl)
      simp only [Act.put, lz0, lz1, lz2, lz3, lz4, lz5]
      refine wpAnyH_done (by kernel_rfl) ?_ _
      go_wp2_with fail
      go_returns
      exact ⟨rfl, hHeld.below⟩
end Go.Proofs.YtmpcafdgkbpneaaGreat
