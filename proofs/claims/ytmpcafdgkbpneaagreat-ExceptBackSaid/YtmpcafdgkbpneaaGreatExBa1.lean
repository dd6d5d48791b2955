/- except's law Back: one kind of gate. -/
import Derived.Test.YtmpcafdgkbpneaaGreatTb
open List renaming getElem_toArray → lz0, getElem_cons_zero → lz1, getElem_cons_succ → lz2, setIfInBounds_toArray → lz3, set_cons_zero → lz4, set_cons_succ → lz5
namespace Go.Proofs.YtmpcafdgkbpneaaGreat
open Go.RowKit Go.MapKept
set_option linter.unusedVariables false
set_option linter.unusedSimpArgs false
attribute [local go_sem ↓] Go.wp_at_zero Go.wp_at_succ
set_option maxRecDepth 100000 in
set_option maxHeartbeats 8000000 in
theorem back_1 (trap : Bool) (vec : Int) (q1 : -9223372036854775808 ≤ vec) (q2 : vec ≤ 9223372036854775807) (g : Nat → Nat) (hg : ∀ i, g i < 4294967296) (fl : Nat) (hfl : fl < 4294967296) (P : Nat) (hP : P < 4294967296) (w : World) :
    Calls Tryz.prog 5 #[.int .i64 vec, .bool true, .bool trap, .agg (regCells g).toArray, .int .u32 (fl : Nat), .int .u32 (P : Nat)] w fun e w' => e = .returned (.bool true) ∧ Below w.heap.size w w' := by
 obtain ⟨m, hm, hv⟩ := vecN_mod vec 64 (by decide)
 have z1 : vecN vec ≤ 9223372036854775807 := by unfold vecN; split <;> omega
 have HM := Lib.hid (And.intro hm (And.intro hv z1))
 have HG := Lib.hid hg
 have HP := Lib.hid (And.intro hP hP)
 obtain ⟨G0, hG0⟩ : ∃ G0, G0 = clr (fl % 32768) 28672 := ⟨_, rfl⟩
 have hgl : G0 < 4294967296 := by rw [hG0]; exact bclr_lt _ _ (by omega)
 have h2 : G0 ||| 2 < 4294967296 := Nat.or_lt_two_pow (n := 32) hgl (by decide)
 have hlm : fl % 32768 < 4294967296 := by omega
 have o0 : bits .andNot .u32 ((fl : Int) % 32768) 28672 = ((G0 : Nat) : Int) := by
  have h := u32_andNot_nat (fl % 32768) 28672 hlm (by decide)
  rw [hG0]
  unfold clr
  exact_mod_cast h
 have o1 : bits .or .u32 (bits .andNot .u32 ((fl : Int) % 32768) 28672) 2 = ((G0 ||| 2 : Nat) : Int) := by
  rw [o0]
  exact u32_or_nat G0 2 hgl (by decide)
 have o2 : bits .or .u32 ((G0 ||| 2 : Nat) : Int) 512 = (((G0 ||| 2) ||| 512 : Nat) : Int) := u32_or_nat (G0 ||| 2) 512 h2 (by decide)
 have HF := Lib.hid (And.intro h2 (And.intro (show (G0 ||| 2) ||| 512 < 4294967296 from Nat.or_lt_two_pow (n := 32) h2 (by decide)) (And.intro o1 o2)))
 have HG0 := Lib.hid hgl
 clear hm hv z1 hg hP hG0 hgl h2 hlm o0 o1 o2
 go_enter Tryz.func5, Tryz.ntmps5
 go_upto_region 1 with (fail)
 have HT0 := Lib.hid (show Hp w (fun _ => False) (w.alloc (.cells (regCells g).toArray 26)) [Ob.box w.heap.size (.cells (regCells g).toArray 26)] from (Hp.zero w).make _)
 change Code.wp _ _ _ _ (w.alloc (.cells (regCells g).toArray 26))
 generalize w.alloc (.cells (regCells g).toArray 26) = w1 at *
 obtain ⟨ab, hab⟩ : ∃ ab, ab = w.heap.size := ⟨_, rfl⟩
 rw [← hab] at HT0 ⊢
 clear hab
 go_wp2_with fail
 refine (awake18 _).mono ?_
 rintro e w2 ⟨rfl, hb⟩
 have HT1 := Lib.hid (HT0.out.grow hb)
 clear HT0 hb
 go_upto_if 23 with (fail)
 go_cut [15] from 24 (fun y wc => y = .int .u32 (kdOf trap : Nat) ∧ w2 = wc)
 case first =>
  cases trap
  ·go_wp2_with fail
   go_meet
   exact ⟨rfl, rfl⟩
  ·go_wp2_with fail
   go_meet
   exact ⟨rfl, rfl⟩
 case rest =>
  obtain ⟨rfl, rfl⟩ := hcut
  have KF := Lib.hid (kd_facts trap)
  have HTB := Lib.hid (kd_tabs trap)
  go_wp2_with fail
  refine (started3 (kdOf trap) (by have := KF.out.2.2.2.2; omega) _).mono ?_
  rintro e w3 ⟨eb, vb, bb, pm, rfl, T3⟩
  have HT3 := Lib.hid (show Hp w (fun _ => False) w3 [oEn eb vb bb ⟨8, pm⟩ 0 ⟨startC 3, startR (kdOf trap)⟩, Ob.box ab (.cells (regCells g).toArray 26)] from HT1.out.join T3)
  clear T3 HT1
  generalize startR (kdOf trap) = R0 at *
  go_upto_if 34 with (fail)
  go_cut [0] from 35 (fun y wc => y = .int .i64 (vecN vec) ∧ w3 = wc)
  case first =>
   by_cases hneg : vec < 0
   ·have hn : vecN vec = -(vec + 1) := if_pos hneg
    go_wp2_with fail
    go_meet
    exact ⟨by rw [hn], rfl⟩
   ·have hn : vecN vec = vec := if_neg hneg
    go_wp2_with fail
    go_meet
    exact ⟨by rw [hn], rfl⟩
  case rest =>
   obtain ⟨rfl, rfl⟩ := hcut
   have z0 := vecN_pos vec
   have hr : (vecN vec).tmod 64 = ((m : Nat) : Int) := by rw [Int.tmod_eq_emod_of_nonneg z0]; exact HM.out.2.1
   have hr2 : vecN vec % 64 = ((m : Nat) : Int) := HM.out.2.1
   have z1 := HM.out.2.2
   have hm64 := HM.out.1
   generalize vecN vec = z at *
   have el := en_lt HT3.out
   have ef := fun k => free_at (k := k) (en_heap HT3.out)
   have k0 := cell_at (k := 0) (en_heap HT3.out)
   rw [show (envCells (startC 3) vb bb)[0]? = some (.int .u32 0) from rfl] at k0
   have k1 := cell_at (k := 1) (en_heap HT3.out)
   rw [show (envCells (startC 3) vb bb)[1]? = some (.int .u32 0) from rfl] at k1
   have k2 := cell_at (k := 2) (en_heap HT3.out)
   rw [show (envCells (startC 3) vb bb)[2]? = some (.int .u32 0) from rfl] at k2
   have k3 := cell_at (k := 3) (en_heap HT3.out)
   rw [show (envCells (startC 3) vb bb)[3]? = some (.int .u32 0) from rfl] at k3
   have k5 := cell_at (k := 5) (en_heap HT3.out)
   rw [show (envCells (startC 3) vb bb)[5]? = some (.int .u32 0) from rfl] at k5
   have k6 := cell_at (k := 6) (en_heap HT3.out)
   rw [show (envCells (startC 3) vb bb)[6]? = some (.int .u32 0) from rfl] at k6
   have k7 := cell_at (k := 7) (en_heap HT3.out)
   rw [show (envCells (startC 3) vb bb)[7]? = some (.int .u32 0) from rfl] at k7
   have k4 := cell_at (k := 4) (en_heap HT3.out)
   rw [show (envCells (startC 3) vb bb)[4]? = some (.int .u32 36864) from rfl] at k4
   have a0 := (box_cells HT3.out (i := 1) rfl).1 0
   have a1 := (box_cells HT3.out (i := 1) rfl).1 1
   have a2 := (box_cells HT3.out (i := 1) rfl).1 2
   have a3 := (box_cells HT3.out (i := 1) rfl).1 3
   have a4 := (box_cells HT3.out (i := 1) rfl).1 4
   have a5 := (box_cells HT3.out (i := 1) rfl).1 5
   have a6 := (box_cells HT3.out (i := 1) rfl).1 6
   have a7 := (box_cells HT3.out (i := 1) rfl).1 7
   simp [regCells] at a0 a1 a2 a3 a4 a5 a6 a7
   have al := (box_cells HT3.out (i := 1) rfl).2.2
   go_upto_region 15 with (fail)
   have HT4 := Lib.hid (show Hp w (fun _ => False) (setsR w3 eb g) [oEn eb vb bb ⟨8, pm⟩ 0 ⟨(startC 3).setAll g, R0⟩, Ob.box ab (.cells (regCells g).toArray 26)] from HT3.out.setAll 0 rfl g HG.out)
   change Code.wp _ _ _ _ (setsR w3 eb g)
   generalize setsR w3 eb g = w4 at *
   clear HT3 el ef k0 k1 k2 k3 k4 k5 k6 k7 a0 a1 a2 a3 a4 a5 a6 a7 al
   have el := en_lt HT4.out
   have ef := fun k => free_at (k := k) (en_heap HT4.out)
   have k4 := cell_at (k := 4) (en_heap HT4.out)
   rw [show (envCells ((startC 3).setAll g) vb bb)[4]? = some (.int .u32 (g 4 : Nat)) from rfl] at k4
   have k8 := cell_at (k := 8) (en_heap HT4.out)
   rw [show (envCells ((startC 3).setAll g) vb bb)[8]? = some (.int .u32 256) from rfl] at k8
   have k9 := cell_at (k := 9) (en_heap HT4.out)
   rw [show (envCells ((startC 3).setAll g) vb bb)[9]? = some (.int .u32 514) from rfl] at k9
   have hck := (HT4.out.cpu 0 rfl).1
   have HT5 := Lib.hid (show Hp w (fun _ => False) (w4.setCell ⟨eb, 4, none⟩ (.int .u32 (36864 : Nat))) [oEn eb vb bb ⟨8, pm⟩ 0 ⟨((startC 3).setAll g).setR 4 36864, R0⟩, Ob.box ab (.cells (regCells g).toArray 26)] from HT4.out.setC 0 rfl 4 _ (env_r _ vb bb 36864) ⟨fun j => (by show (if j = 4 then 36864 else ((startC 3).setAll g).r j) < _; split; decide; exact hck.r j), hck.eip, hck.flags, hck.seg, hck.cr0, hck.cr2, hck.cr3, hck.gb, hck.gl, hck.ib, hck.il, hck.tr⟩)
   have hck5 := (HT5.out.cpu 0 rfl).1
   have HT6 := Lib.hid (show Hp w (fun _ => False) ((w4.setCell ⟨eb, 4, none⟩ (.int .u32 (36864 : Nat))).setCell ⟨eb, 8, none⟩ (.int .u32 (P : Nat))) [oEn eb vb bb ⟨8, pm⟩ 0 ⟨({ ((startC 3).setAll g).setR 4 36864 with eip := P } : CpuS), R0⟩, Ob.box ab (.cells (regCells g).toArray 26)] from HT5.out.setC 0 rfl 8 _ (env_ip _ vb bb P) ⟨hck5.r, HP.out.1, hck5.flags, hck5.seg, hck5.cr0, hck5.cr2, hck5.cr3, hck5.gb, hck5.gl, hck5.ib, hck5.il, hck5.tr⟩)
   have hck6 := (HT6.out.cpu 0 rfl).1
   have HT7 := Lib.hid (show Hp w (fun _ => False) (((w4.setCell ⟨eb, 4, none⟩ (.int .u32 (36864 : Nat))).setCell ⟨eb, 8, none⟩ (.int .u32 (P : Nat))).setCell ⟨eb, 9, none⟩ (.int .u32 (G0 ||| 2 : Nat))) [oEn eb vb bb ⟨8, pm⟩ 0 ⟨({ ({ ((startC 3).setAll g).setR 4 36864 with eip := P } : CpuS) with flags := G0 ||| 2 } : CpuS), R0⟩, Ob.box ab (.cells (regCells g).toArray 26)] from HT6.out.setC 0 rfl 9 _ (env_fl _ vb bb (G0 ||| 2)) ⟨hck6.r, hck6.eip, HF.out.1, hck6.seg, hck6.cr0, hck6.cr2, hck6.cr3, hck6.gb, hck6.gl, hck6.ib, hck6.il, hck6.tr⟩)
   have hck7 := (HT7.out.cpu 0 rfl).1
   have HT8 := Lib.hid (show Hp w (fun _ => False) ((((w4.setCell ⟨eb, 4, none⟩ (.int .u32 (36864 : Nat))).setCell ⟨eb, 8, none⟩ (.int .u32 (P : Nat))).setCell ⟨eb, 9, none⟩ (.int .u32 (G0 ||| 2 : Nat))).setCell ⟨eb, 9, none⟩ (.int .u32 ((G0 ||| 2) ||| 512 : Nat))) [oEn eb vb bb ⟨8, pm⟩ 0 ⟨({ ({ ({ ((startC 3).setAll g).setR 4 36864 with eip := P } : CpuS) with flags := G0 ||| 2 } : CpuS) with flags := (G0 ||| 2) ||| 512 } : CpuS), R0⟩, Ob.box ab (.cells (regCells g).toArray 26)] from HT7.out.setC 0 rfl 9 _ (env_fl _ vb bb ((G0 ||| 2) ||| 512)) ⟨hck7.r, hck7.eip, HF.out.2.1, hck7.seg, hck7.cr0, hck7.cr2, hck7.cr3, hck7.gb, hck7.gl, hck7.ib, hck7.il, hck7.tr⟩)
   have o1 := HF.out.2.2.1
   have o2 := HF.out.2.2.2
   go_upto_region 20 with (fail)
   change Code.wp _ _ _ _ ((((w4.setCell ⟨eb, 4, none⟩ (.int .u32 (36864 : Nat))).setCell ⟨eb, 8, none⟩ (.int .u32 (P : Nat))).setCell ⟨eb, 9, none⟩ (.int .u32 (G0 ||| 2 : Nat))).setCell ⟨eb, 9, none⟩ (.int .u32 ((G0 ||| 2) ||| 512 : Nat)))
   clear HT4 HT5 HT6 HT7 el ef k4 k8 k9 hck hck5 hck6 o1 o2 hck7
   generalize ((((w4.setCell ⟨eb, 4, none⟩ (.int .u32 (36864 : Nat))).setCell ⟨eb, 8, none⟩ (.int .u32 (P : Nat))).setCell ⟨eb, 9, none⟩ (.int .u32 (G0 ||| 2 : Nat))).setCell ⟨eb, 9, none⟩ (.int .u32 ((G0 ||| 2) ||| 512 : Nat))) = w5 at *
   rw [back_C3 g G0 P] at HT8
   obtain ⟨rg, hrg⟩ : ∃ rg : Nat → Nat, rg = (fun i => if i < 8 then g i else 0) := ⟨_, rfl⟩
   rw [← hrg] at HT8
   have hG : (G0 ||| 512) < 4294967296 := Nat.or_lt_two_pow (n := 32) HG0.out (by decide)
   obtain ⟨G, hGG⟩ : ∃ G, G = (G0 ||| 512) := ⟨_, rfl⟩
   rw [← hGG] at HT8 hG
   obtain ⟨sf, hsf⟩ : ∃ sf : Bool, sf = (z % 2 == 0) := ⟨_, rfl⟩
   have he1 := back_out (regs := rg) (F := G ||| 2) (P := P) HTB.out HM.out.1 sf (k := kOf trap) KF.out.1 KF.out.2.1 KF.out.2.2.1 KF.out.2.2.2.1 KF.out.2.2.2.2
   obtain ⟨C2, he2, hcc⟩ := back_other (regs := rg) (G := G) (P := P) (v := m) (k := kOf trap) HTB.out hG HP.out.1
   have hD : (backE rg (G ||| 2) P m (kOf trap)).eip = 24576 + 16 * m ∧ ((backE rg (G ||| 2) P m (kOf trap)).seg 1).sel = 8 ∧ (backE rg (G ||| 2) P m (kOf trap)).flags = inFlags (G ||| 2) (kOf trap) := ⟨rfl, rfl, rfl⟩
   have hfl : (backE rg (G ||| 2) P m (kOf trap)).flags < 4294967296 := by rw [hD.2.2]; exact inFlags_lt (Nat.or_lt_two_pow (n := 32) hG (by decide))
   have hfb := in_bits (G ||| 2) (kOf trap) (Nat.or_lt_two_pow (n := 32) hG (by decide))
   rw [← hD.2.2] at hfb
   generalize R5 R0 40684 35 36864 (G ||| 2) 27 P = R1 at *
   generalize backE rg (G ||| 2) P m (kOf trap) = D at *
   have HE := Lib.hid (And.intro he1 (And.intro he2 (And.intro hcc (And.intro hD (And.intro hfl hfb)))))
   clear he1 he2 hcc hD hfl hfb
   have HR := Lib.hid (env_range HT8.out)
   change Hid (w5.rangeAt eb 0 (backC 3 rg (G ||| 2) P).cells) at HR
   have HN := Lib.hid (heap_new w5 (.cells zero83C 36))
   have hz := fun w => zero83 w
   have hlen : (Tryz.prog.info? 36).map (·.size) = some (backC 3 rg (G ||| 2) P).cells.length := by rw [(backC 3 rg (G ||| 2) P).cells_len]; exact info83
   have hone := cells_one (backC 3 rg (G ||| 2) P)
   have hsz : (backC 3 rg (G ||| 2) P).cells.toArray.size = 83 := by rw [List.size_toArray]; exact (backC 3 rg (G ||| 2) P).cells_len
   have heq := eq_cpu (backC 3 rg (G ||| 2) P)
   have hcc := HE.out.2.2.1
   obtain ⟨cL, hcL⟩ : ∃ cL, cL = (backC 3 rg (G ||| 2) P).cells := ⟨_, rfl⟩
   rw [← hcL] at HR hlen hone hsz heq hcc
   have HX := Lib.hid (And.intro hlen (And.intro hone (And.intro hsz (And.intro heq hcc))))
   clear hlen hone hsz heq hcL hcc
   have HT9 := Lib.hid (show Hp w (fun _ => False) (w5.alloc (.cells cL.toArray 36)) [oEn eb vb bb ⟨8, pm⟩ 0 ⟨backC 3 rg (G ||| 2) P, R0⟩, Ob.box w5.heap.size (.cells cL.toArray 36)] from (HT8.out.left (l1 := [oEn eb vb bb ⟨8, pm⟩ 0 ⟨backC 3 rg (G ||| 2) P, R0⟩])).make _)
   go_upto_region 21 with (first | (refine wpList_load_mid rfl _ _ rfl eb 0 rfl cL _ HR.out Tryz.underlying36 rfl HX.out.1 ?_) | (refine wpList_store_row rfl _ _ _ rfl w5.heap.size cL.toArray rfl rfl _ _ HN.out (by rw [HX.out.2.2.1]; exact info83) (by rw [HX.out.2.2.1]; rfl) HX.out.2.1 ?_))
   change Code.wp _ _ _ _ ((w5.alloc (.cells zero83C 36)).setRow w5.heap.size cL.toArray)
   rw [World.setRow_alloc_new]
   clear HR HN hz HT8
   generalize w5.alloc (.cells cL.toArray 36) = w6 at *
   generalize w5.heap.size = cb at *
   go_wp2_with fail
   try rw [← hsf]
   refine (HT9.out.act 0 rfl (enter_x (m : Nat) (-1) sf (by decide))).mono ?_
   rw [HE.out.1]
   rintro e w7 ⟨he, T7⟩
   change e = .returned (.agg #[.int .i64 (-1), .int .i64 (-1), .int .u32 0]) at he
   subst he
   have HT10 := Lib.hid (show Hp w (fun _ => False) (w7.alloc (.cells #[.int .i64 (-1), .int .i64 (-1), .int .u32 0] 42)) [oEn eb vb bb ⟨8, pm⟩ 40 ⟨D, R1⟩, Ob.box cb (.cells cL.toArray 36), Ob.box w7.heap.size (.cells #[.int .i64 (-1), .int .i64 (-1), .int .u32 0] 42)] from T7.make _)
   clear T7 HT9
   go_upto_region 22 with (fail)
   change Code.wp _ _ _ _ (w7.alloc (.cells #[.int .i64 (-1), .int .i64 (-1), .int .u32 0] 42))
   generalize w7.alloc (.cells #[.int .i64 (-1), .int .i64 (-1), .int .u32 0] 42) = w8 at *
   generalize w7.heap.size = fb at *
   have el := en_lt HT10.out
   have k8 := cell_at (k := 8) (en_heap HT10.out)
   rw [show (envCells D vb bb)[8]? = some (.int .u32 (D.eip : Nat)) from rfl, HE.out.2.2.2.1.1] at k8
   have k19 := cell_at (k := 19) (en_heap HT10.out)
   rw [show (envCells D vb bb)[19]? = some (.int .u16 ((D.seg 1).sel : Nat)) from rfl, HE.out.2.2.2.1.2.1] at k19
   have k9 := cell_at (k := 9) (en_heap HT10.out)
   rw [show (envCells D vb bb)[9]? = some (.int .u32 (D.flags : Nat)) from rfl] at k9
   have f0 := (box_cells HT10.out (i := 2) rfl).1 0
   have fl := (box_cells HT10.out (i := 2) rfl).2.2
   simp at f0
   push_cast at k8
   go_upto_region 24 with (fail)
   clear k8 k19 f0 fl
   obtain ⟨hf0, hf1⟩ := HE.out.2.2.2.2.2
   go_cut [135] from 136 (fun y wc => y = .bool false ∧ w8 = wc)
   case first =>
    cases trap
    ·have h5 := hf0 rfl
     clear hf0
     go_wp2_with fail
     go_meet
     exact ⟨rfl, rfl⟩
    ·clear hf0
     by_cases h5 : bits .and .u32 (D.flags : Int) 512 = 0
     ·go_wp2_with fail
      go_meet
      exact ⟨rfl, rfl⟩
     ·go_wp2_with fail
      go_meet
      exact ⟨rfl, rfl⟩
   case rest =>
    obtain ⟨rfl, rfl⟩ := hcut
    go_wp2_with fail
    clear el k9 hf0 hf1
    refine (HT10.out.act 0 rfl (return_x 4 (by decide))).mono ?_
    rw [HE.out.2.1]
    rintro e w9 ⟨he, T9⟩
    change e = .returned (.agg #[.int .i64 (-1), .int .i64 (-1), .int .u32 0]) at he
    subst he
    have HT11 := Lib.hid (show Hp w (fun _ => False) (w9.alloc (.cells #[.int .i64 (-1), .int .i64 (-1), .int .u32 0] 42)) [oEn eb vb bb ⟨8, pm⟩ 80 ⟨C2, R1⟩, Ob.box cb (.cells cL.toArray 36), Ob.box fb (.cells #[.int .i64 (-1), .int .i64 (-1), .int .u32 0] 42), Ob.box w9.heap.size (.cells #[.int .i64 (-1), .int .i64 (-1), .int .u32 0] 42)] from T9.make _)
    clear T9 HT10
    go_upto_region 27 with (fail)
    change Code.wp _ _ _ _ (w9.alloc (.cells #[.int .i64 (-1), .int .i64 (-1), .int .u32 0] 42))
    generalize w9.alloc (.cells #[.int .i64 (-1), .int .i64 (-1), .int .u32 0] 42) = w10 at *
    generalize w9.heap.size = gb at *
    have HH := Lib.hid HT11.out.drew
    refine wp_region_held_drew (S := fun w' => Hp w (fun _ => False) w' [oEn eb vb bb ⟨8, pm⟩ 80 ⟨C2, R1⟩, Ob.box cb (.cells cL.toArray 36), Ob.box fb (.cells #[.int .i64 (-1), .int .i64 (-1), .int .u32 0] 42), Ob.box gb (.cells #[.int .i64 (-1), .int .i64 (-1), .int .u32 0] 42)]) (by kernel_rfl) HH.out (fun hHeld => ?_)
    refine wpAnyH_take (i := 0) (oi := _) (v := ?_) rfl (by kernel_rfl) (by kernel_rfl) (by kernel_rfl) (fun _ _ _ h => h) (Or.inl ⟨by rfl, ?_⟩) (by assumption) ?_
    rotate_left
    ·(intro w hSw; have g0 := (box_cells hSw (i := 3) rfl).1 0; have gl := (box_cells hSw (i := 3) rfl).2.2; simp at g0; (try dsimp only at hSw); go_simp <;> rfl)
    simp only [Act.put, lz0, lz1, lz2, lz3, lz4, lz5]
    refine wpAnyH_take (i := 1) (oi := _) (v := ?_) rfl (by kernel_rfl) (by kernel_rfl) (by kernel_rfl) (fun _ _ _ h => h) (Or.inl ⟨by rfl, ?_⟩) (by assumption) ?_
    rotate_left
    ·(intro w hSw; have g0 := (box_cells hSw (i := 3) rfl).1 0; have gl := (box_cells hSw (i := 3) rfl).2.2; simp at g0; (try dsimp only at hSw); go_simp <;> rfl)
    simp only [Act.put, lz0, lz1, lz2, lz3, lz4, lz5]
    refine wpAnyH_take (i := 2) (oi := _) (v := .bool true) rfl (by kernel_rfl) (by kernel_rfl) (by kernel_rfl) (fun _ _ _ h => h) (Or.inl ⟨by rfl, ?_⟩) (by assumption) ?_
    ·(intro w hSw; (try dsimp only at hSw); go_simp <;> simp)
    simp only [Act.put, lz0, lz1, lz2, lz3, lz4, lz5]
    refine wpAnyH_take (i := 3) (oi := _) (v := ?_) rfl (by kernel_rfl) (by kernel_rfl) (by kernel_rfl) (fun _ _ _ h => h) (Or.inl ⟨by rfl, ?_⟩) (by assumption) ?_
    rotate_left
    ·(intro w hSw; (try dsimp only at hSw); go_simp <;> rfl)
    simp only [Act.put, lz0, lz1, lz2, lz3, lz4, lz5]
    refine wpAnyH_take (i := 4) (oi := _) (v := ?_) rfl (by kernel_rfl) (by kernel_rfl) (by kernel_rfl) (fun _ _ _ h => h) (Or.inl ⟨by rfl, ?_⟩) (by assumption) ?_
    rotate_left
    ·(intro w hSw; (try dsimp only at hSw); go_simp <;> rfl)
    simp only [Act.put, lz0, lz1, lz2, lz3, lz4, lz5]
    refine wpAnyH_take (i := 5) (oi := _) (v := ?_) rfl (by kernel_rfl) (by kernel_rfl) (by kernel_rfl) (fun _ _ _ h => h) (Or.inl ⟨by rfl, ?_⟩) (by assumption) ?_
    rotate_left
    ·(intro w hSw; have el := en_lt hSw; (try dsimp only at hSw); go_simp <;> rfl)
    simp only [Act.put, lz0, lz1, lz2, lz3, lz4, lz5]
    refine wpAnyH_take (i := 6) (oi := _) (v := ?_) rfl (by kernel_rfl) (by kernel_rfl) (by kernel_rfl) (fun _ _ _ h => h) (Or.inl ⟨by rfl, ?_⟩) (by assumption) ?_
    rotate_left
    ·(intro w hSw; have el := en_lt hSw; (try dsimp only at hSw); go_simp <;> rfl)
    simp only [Act.put, lz0, lz1, lz2, lz3, lz4, lz5]
    refine wpAnyH_take (i := 7) (oi := _) (v := _) rfl (by kernel_rfl) (by kernel_rfl) (by kernel_rfl) (fun _ _ _ h => h) (yieldsIf_load_mid (by rfl) _ _ rfl eb _ rfl cL _ (fun _ h => (by rw [← HX.out.2.2.2.2]; exact env_range h)) Tryz.underlying36 rfl HX.out.1) (by assumption) ?_
    simp only [Act.put, lz0, lz1, lz2, lz3, lz4, lz5]
    refine wpAnyH_take (i := 8) (oi := _) (v := _) rfl (by kernel_rfl) (by kernel_rfl) (by kernel_rfl) (fun _ _ _ h => h) (yieldsIf_load_mid (by rfl) _ _ rfl cb _ rfl cL _ (fun _ h => box_range (i := 1) h rfl) Tryz.underlying36 rfl HX.out.1) (by assumption) ?_
    simp only [Act.put, lz0, lz1, lz2, lz3, lz4, lz5]
    refine wpAnyH_take (i := 9) (oi := _) (v := .bool true) rfl (by kernel_rfl) (by kernel_rfl) (by kernel_rfl) (fun _ _ _ h => h) (yieldsIf_eql (by rfl) 36 _ _ _ rfl cL.toArray rfl rfl (by kernel_rfl) HX.out.2.2.2.1) (by assumption) ?_
    simp only [Act.put, lz0, lz1, lz2, lz3, lz4, lz5]
    refine wpAnyH_take (i := 10) (oi := _) (v := ?_) rfl (by kernel_rfl) (by kernel_rfl) (by kernel_rfl) (fun _ _ _ h => h) (Or.inl ⟨by rfl, ?_⟩) (by assumption) ?_
    rotate_left
    ·(intro w hSw; (try dsimp only at hSw); go_simp <;> rfl)
    simp only [Act.put, lz0, lz1, lz2, lz3, lz4, lz5]
    refine wpAnyH_take (i := 11) (oi := _) (v := ?_) rfl (by kernel_rfl) (by kernel_rfl) (by kernel_rfl) (fun _ _ _ h => h) (Or.inl ⟨by rfl, ?_⟩) (by assumption) ?_
    rotate_left
    ·(intro w hSw; (try dsimp only at hSw); go_simp <;> rfl)
    simp only [Act.put, lz0, lz1, lz2, lz3, lz4, lz5]
    refine wpAnyH_done (by kernel_rfl) ?_ _
    go_wp2_with fail
    go_returns
    exact ⟨rfl, hHeld.below⟩
end Go.Proofs.YtmpcafdgkbpneaaGreat
