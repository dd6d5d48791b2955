/- 'drawloom/drawloomlaw18.ExceptEnds' answers true for every input. Conditions: none. -/
import Derived.Test.YtmpcafdgkbpneaaGreatS0
import Derived.Test.YtmpcafdgkbpneaaGreatExLaw
import Derived.Test.YtmpcafdgkbpneaaGreatExEndP
import Derived.Test.YtmpcafdgkbpneaaGreatVmIn
import Derived.Test.YtmpcafdgkbpneaaGreatPArgs
open List renaming getElem_toArray → lz0, getElem_cons_zero → lz1, getElem_cons_succ → lz2, setIfInBounds_toArray → lz3, set_cons_zero → lz4, set_cons_succ → lz5
namespace Go.Proofs.YtmpcafdgkbpneaaGreat.exceptEnds
open Go.ChangeShapes Go.WideShapes Go.ChangeAt Go.RowKit
set_option linter.unusedVariables false

open Go.MapKept
set_option linter.unusedSimpArgs false
attribute [local go_sem ↓] Go.wp_at_zero Go.wp_at_succ
set_option maxRecDepth 100000 in
set_option maxHeartbeats 8000000 in
theorem walk (C : CpuS) (hC : C.ok) (a1 : Option Addr) (l c1 : Nat) (at_ v : Nat → Nat) (w : World) (W : WordsIn w a1 l at_ v) (hl : l ≤ 9223372036854775807) (vec : Int) (q1 : -9223372036854775808 ≤ vec) (q2 : vec ≤ 9223372036854775807) (cd : Int) (q3 : -9223372036854775808 ≤ cd) (q4 : cd ≤ 9223372036854775807) :
    Calls Tryz.prog 6 #[.agg C.cells.toArray, .slice a1 l c1, .int .i64 vec, .int .i64 cd] w fun e w' => e = .returned (.bool true) ∧ Below w.heap.size w w' := by
  obtain ⟨m, hm, hv⟩ := vecN_mod vec 20 (by decide)
  have HV := Lib.hid (And.intro hm hv)
  clear hm hv
  have HW := Lib.hid W
  obtain ⟨C0, hC0⟩ : ∃ C0 : CpuS, C0 = { C with dead := false } := ⟨_, rfl⟩
  have hok : C0.ok := by rw [hC0]; exact ⟨hC.r, hC.eip, hC.flags, hC.seg, hC.cr0, hC.cr2, hC.cr3, hC.gb, hC.gl, hC.ib, hC.il, hC.tr⟩
  have hd0 : C0.dead = false := by rw [hC0]
  obtain ⟨R, hR⟩ : ∃ R, R = bothR 16 at_ v l (fun _ => 0) 0 := ⟨_, rfl⟩
  have hw : Wide R := by rw [hR]; exact Wide.both _ _ _ _ _ _
  have hset := c_dead C
  rw [← hC0] at hset
  have h17 := fun (u : World) (U : WordsIn u a1 l at_ v) => both17 (w := u) hok (c1 := c1) U hl
  rw [← hR] at h17
  obtain ⟨s1, hf, he⟩ := fault_four C0 R hw hok hd0 ⟨(m : Nat), cd, 0⟩ (by show (0 : Int) ≤ (m : Nat); omega) (show (0 : Nat) < 4294967296 by decide)
  have hlen : (Tryz.prog.info? 36).map (·.size) = some C0.cells.length := by rw [C0.cells_len]; exact info83
  have HX := Lib.hid (And.intro hok (And.intro hw (And.intro hf (And.intro he (And.intro h17 (And.intro hset hlen))))))
  have hdR : (dk2 R).R = R := by
    have hc : R.closed = false := by rw [hR]; exact (Plain.both _ _ _ _ _).c
    have e : (dk2 R).R = R.gate true := rfl
    rw [e]
    unfold RS.gate
    rw [show (!true) = R.closed by rw [hc]; rfl]
  have HDR := Lib.hid hdR
  have hx82 : C.cells.toArray[82]? = some (.bool C.dead) := rfl
  clear hC W hl hC0 hok hd0 hR hw hset h17 hf he hlen hdR
  go_enter Tryz.func6, Tryz.ntmps6
  go_upto_region 1 with (fail)
  have HT0 := Lib.hid (show Hp w (fun _ => False) (w.alloc (.cells C.cells.toArray 36)) [Ob.box w.heap.size (.cells C.cells.toArray 36)] from (Hp.zero w).make _)
  change Code.wp _ _ _ _ (w.alloc (.cells C.cells.toArray 36))
  generalize w.alloc (.cells C.cells.toArray 36) = w1 at *
  obtain ⟨cb, hcb⟩ : ∃ cb, cb = w.heap.size := ⟨_, rfl⟩
  rw [← hcb] at HT0 ⊢
  clear hcb
  go_wp2_with fail
  refine (awake18 _).mono ?_
  rintro e w2 ⟨rfl, hb⟩
  have HT1 := Lib.hid (HT0.out.grow hb)
  clear HT0 hb
  have c82 := (box_cells HT1.out (i := 0) rfl).1 82
  rw [hx82] at c82
  clear hx82
  have cf := (box_cells HT1.out (i := 0) rfl).2.1
  have cl := (box_cells HT1.out (i := 0) rfl).2.2
  go_upto_region 3 with (fail)
  have HT2 := Lib.hid (show Hp w (fun _ => False) (w2.setCell ⟨cb, 82, none⟩ (.bool false)) [Ob.box cb (.cells C0.cells.toArray 36)] from by rw [← HX.out.2.2.2.2.2.1]; exact HT1.out.set 0 rfl 82 (.bool false))
  change Code.wp _ _ _ _ (w2.setCell ⟨cb, 82, none⟩ (.bool false))
  generalize w2.setCell ⟨cb, 82, none⟩ (.bool false) = w3 at *
  clear c82 cf cl HT1
  have HR := Lib.hid (box_range (i := 0) HT2.out rfl)
  have HW3 := Lib.hid (wds_below HW.out HT2.out.below)
  go_wp2_with (refine wpList_load_mid rfl _ _ rfl cb 0 rfl C0.cells _ HR.out Tryz.underlying36 rfl HX.out.2.2.2.2.2.2 ?_)
  refine (HX.out.2.2.2.2.1 _ HW3.out).mono ?_
  rintro e w4 ⟨eb, vb, bb, pm, rb, rbb, rm, rfl, T4⟩
  have HT4 := Lib.hid (Hp.started2 (((((HT2.out.join T4).front 4 rfl).front 3 rfl).front 3 rfl).front 3 rfl) HX.out.1 HX.out.2.1 HDR.out)
  clear T4 HT2 HR HW3
  have HF := Lib.hid (fault_x (eb := eb) (vb := vb) (bb := bb) (pl := ⟨8, pm⟩) (n := 0) (N := 160) ⟨(m : Nat), cd, 0⟩ 4 HX.out.2.2.1 (by decide) (by decide) (show (0 : Nat) < 4294967296 by decide))
  have HE := Lib.hid HX.out.2.2.2.1
  rw [show (FaultS.val ⟨(m : Nat), cd, 0⟩) = .agg #[.int .i64 (m : Nat), .int .i64 cd, .int .u32 0] from rfl] at HF
  clear HX HDR HW
  go_upto_if 28 with (fail)
  go_cut [2] from 29 (fun y wc => y = .int .i64 (vecN vec) ∧ w4 = wc)
  case first =>
    by_cases hneg : vec < 0
    · have hn : vecN vec = -(vec + 1) := if_pos hneg
      go_wp2_with fail
      go_meet
      exact ⟨by rw [hn], rfl⟩
    · have hn : vecN vec = vec := if_neg hneg
      go_wp2_with fail
      go_meet
      exact ⟨by rw [hn], rfl⟩
  case rest =>
    obtain ⟨rfl, rfl⟩ := hcut
    have z0 := vecN_pos vec
    have hr : (vecN vec).tmod 20 = ((m : Nat) : Int) := by rw [Int.tmod_eq_emod_of_nonneg z0]; exact HV.out.2
    have hr2 : vecN vec % 20 = ((m : Nat) : Int) := HV.out.2
    generalize vecN vec = z at *
    clear HV q1 q2
    go_wp2_with fail
    refine (HT4.out.act 0 rfl HF.out).mono ?_
    rintro e w5 ⟨rfl, T5⟩
    have HT5 := Lib.hid (show Hp w (fun _ => False) w5 [oEn eb vb bb ⟨8, pm⟩ 160 s1, Ob.box cb (.cells C0.cells.toArray 36)] from T5)
    clear T5 HT4 HF hr hr2 z0
    have hel := en_lt HT5.out
    have k82 := cell_at (k := 82) (en_heap HT5.out)
    rw [show (envCells s1.C vb bb)[82]? = some (.bool s1.C.dead) from rfl] at k82
    rcases HE.out with ⟨e1, e2, e3, e4, e5⟩ | ⟨e1, e2, e3, e4, e5, e6⟩
    · rw [e1] at k82
      go_upto_region 10 with (fail)
      clear hel k82
      have HD := Lib.hid (And.intro e2 (And.intro e3 (And.intro e4 e5)))
      clear e1 e2 e3 e4 e5
      have HH := Lib.hid HT5.out.drew
      refine wp_region_held_drew (S := fun w' => Hp w (fun _ => False) w' [oEn eb vb bb ⟨8, pm⟩ 160 s1, Ob.box cb (.cells C0.cells.toArray 36)]) (by kernel_rfl) HH.out (fun hHeld => ?_)
      refine wpAnyH_take (i := 0) (oi := _) (v := ?_) rfl (by kernel_rfl) (by kernel_rfl) (by kernel_rfl) (fun _ _ _ h => h) (Or.inl ⟨by rfl, ?_⟩) (by assumption) ?_
      rotate_left
      · (intro w hSw; (try dsimp only at hSw); go_simp <;> rfl)
      simp only [Act.put, lz0, lz1, lz2, lz3, lz4, lz5]
      refine wpAnyH_take (i := 1) (oi := _) (v := ?_) rfl (by kernel_rfl) (by kernel_rfl) (by kernel_rfl) (fun _ _ _ h => h) (Or.inl ⟨by rfl, ?_⟩) (by assumption) ?_
      rotate_left
      · (intro w hSw; have el := en_lt hSw; (try dsimp only at hSw); go_simp <;> rfl)
      simp only [Act.put, lz0, lz1, lz2, lz3, lz4, lz5]
      refine wpAnyH_take (i := 2) (oi := _) (v := ?_) rfl (by kernel_rfl) (by kernel_rfl) (by kernel_rfl) (fun _ _ _ h => h) (Or.inl ⟨by rfl, ?_⟩) (by assumption) ?_
      rotate_left
      · (intro w hSw; have el := en_lt hSw; (try dsimp only at hSw); go_simp <;> rfl)
      simp only [Act.put, lz0, lz1, lz2, lz3, lz4, lz5]
      refine wpAnyH_take (i := 3) (oi := _) (v := ?_) rfl (by kernel_rfl) (by kernel_rfl) (by kernel_rfl) (fun _ _ _ h => h) (Or.inl ⟨by rfl, ?_⟩) (by assumption) ?_
      rotate_left
      · (intro w hSw; have el := en_lt hSw; (try dsimp only at hSw); go_simp <;> rfl)
      simp only [Act.put, lz0, lz1, lz2, lz3, lz4, lz5]
      refine wpAnyH_take (i := 4) (oi := _) (v := _) rfl (by kernel_rfl) (by kernel_rfl) (by kernel_rfl) (fun _ _ _ h => h) (yieldsIf_load_mid (by rfl) _ _ rfl eb _ rfl (regCells C0.r) _ (fun _ h => (by rw [← HD.out.1]; exact regs_range (env_range h))) Tryz.underlying26 rfl (regs_info _)) (by assumption) ?_
      simp only [Act.put, lz0, lz1, lz2, lz3, lz4, lz5]
      refine wpAnyH_take (i := 5) (oi := _) (v := ?_) rfl (by kernel_rfl) (by kernel_rfl) (by kernel_rfl) (fun _ _ _ h => h) (Or.inl ⟨by rfl, ?_⟩) (by assumption) ?_
      rotate_left
      · (intro w hSw; have cl := (box_cells hSw (i := 1) rfl).2.2; (try dsimp only at hSw); go_simp <;> rfl)
      simp only [Act.put, lz0, lz1, lz2, lz3, lz4, lz5]
      refine wpAnyH_take (i := 6) (oi := _) (v := _) rfl (by kernel_rfl) (by kernel_rfl) (by kernel_rfl) (fun _ _ _ h => h) (yieldsIf_load_mid (by rfl) _ _ rfl cb _ rfl (regCells C0.r) _ (fun _ h => regs_range (box_range (i := 1) h rfl)) Tryz.underlying26 rfl (regs_info _)) (by assumption) ?_
      simp only [Act.put, lz0, lz1, lz2, lz3, lz4, lz5]
      refine wpAnyH_take (i := 7) (oi := _) (v := .bool true) rfl (by kernel_rfl) (by kernel_rfl) (by kernel_rfl) (fun _ _ _ h => h) (yieldsIf_eql (by rfl) 26 _ _ _ rfl (regCells C0.r).toArray rfl rfl (by kernel_rfl) (eq_regs _)) (by assumption) ?_
      simp only [Act.put, lz0, lz1, lz2, lz3, lz4, lz5]
      refine wpAnyH_take (i := 8) (oi := _) (v := ?_) rfl (by kernel_rfl) (by kernel_rfl) (by kernel_rfl) (fun _ _ _ h => h) (Or.inl ⟨by rfl, ?_⟩) (by assumption) ?_
      rotate_left
      · (intro w hSw; (try dsimp only at hSw); go_simp <;> rfl)
      simp only [Act.put, lz0, lz1, lz2, lz3, lz4, lz5]
      refine wpAnyH_take (i := 9) (oi := _) (v := ?_) rfl (by kernel_rfl) (by kernel_rfl) (by kernel_rfl) (fun _ _ _ h => h) (Or.inl ⟨by rfl, ?_⟩) (by assumption) ?_
      rotate_left
      · (intro w hSw; (try dsimp only at hSw); go_simp <;> rfl)
      simp only [Act.put, lz0, lz1, lz2, lz3, lz4, lz5]
      refine wpAnyH_take (i := 10) (oi := _) (v := ?_) rfl (by kernel_rfl) (by kernel_rfl) (by kernel_rfl) (fun _ _ _ h => h) (Or.inl ⟨by rfl, ?_⟩) (by assumption) ?_
      rotate_left
      · (intro w hSw; have el := en_lt hSw; (try dsimp only at hSw); go_simp <;> rfl)
      simp only [Act.put, lz0, lz1, lz2, lz3, lz4, lz5]
      refine wpAnyH_take (i := 11) (oi := _) (v := ?_) rfl (by kernel_rfl) (by kernel_rfl) (by kernel_rfl) (fun _ _ _ h => h) (Or.inl ⟨by rfl, ?_⟩) (by assumption) ?_
      rotate_left
      · (intro w hSw; have el := en_lt hSw; (try dsimp only at hSw); go_simp <;> rfl)
      simp only [Act.put, lz0, lz1, lz2, lz3, lz4, lz5]
      refine wpAnyH_take (i := 12) (oi := _) (v := ?_) rfl (by kernel_rfl) (by kernel_rfl) (by kernel_rfl) (fun _ _ _ h => h) (Or.inl ⟨by rfl, ?_⟩) (by assumption) ?_
      rotate_left
      · (intro w hSw; have el := en_lt hSw; (try dsimp only at hSw); go_simp <;> rfl)
      simp only [Act.put, lz0, lz1, lz2, lz3, lz4, lz5]
      refine wpAnyH_take (i := 13) (oi := _) (v := ?_) rfl (by kernel_rfl) (by kernel_rfl) (by kernel_rfl) (fun _ _ _ h => h) (Or.inl ⟨by rfl, ?_⟩) (by assumption) ?_
      rotate_left
      · (intro w hSw; have el := en_lt hSw; have ek := cell_at (k := 8) (en_heap hSw); rw [show (envCells s1.C vb bb)[8]? = some (.int .u32 (s1.C.eip : Nat)) from rfl] at ek; rw [HD.out.2.1] at ek; (try dsimp only at hSw); go_simp <;> rfl)
      simp only [Act.put, lz0, lz1, lz2, lz3, lz4, lz5]
      refine wpAnyH_take (i := 14) (oi := _) (v := ?_) rfl (by kernel_rfl) (by kernel_rfl) (by kernel_rfl) (fun _ _ _ h => h) (Or.inl ⟨by rfl, ?_⟩) (by assumption) ?_
      rotate_left
      · (intro w hSw; have cl := (box_cells hSw (i := 1) rfl).2.2; (try dsimp only at hSw); go_simp <;> rfl)
      simp only [Act.put, lz0, lz1, lz2, lz3, lz4, lz5]
      refine wpAnyH_take (i := 15) (oi := _) (v := ?_) rfl (by kernel_rfl) (by kernel_rfl) (by kernel_rfl) (fun _ _ _ h => h) (Or.inl ⟨by rfl, ?_⟩) (by assumption) ?_
      rotate_left
      · (intro w hSw; have cl := (box_cells hSw (i := 1) rfl).2.2; have ck := (box_cells hSw (i := 1) rfl).1 8; rw [show C0.cells.toArray[8]? = some (.int .u32 (C0.eip : Nat)) from rfl] at ck; (try dsimp only at hSw); go_simp <;> rfl)
      simp only [Act.put, lz0, lz1, lz2, lz3, lz4, lz5]
      refine wpAnyH_take (i := 16) (oi := _) (v := .bool true) rfl (by kernel_rfl) (by kernel_rfl) (by kernel_rfl) (fun _ _ _ h => h) (Or.inl ⟨by rfl, ?_⟩) (by assumption) ?_
      · (intro w hSw; (try dsimp only at hSw); go_simp <;> simp)
      simp only [Act.put, lz0, lz1, lz2, lz3, lz4, lz5]
      refine wpAnyH_take (i := 17) (oi := _) (v := ?_) rfl (by kernel_rfl) (by kernel_rfl) (by kernel_rfl) (fun _ _ _ h => h) (Or.inl ⟨by rfl, ?_⟩) (by assumption) ?_
      rotate_left
      · (intro w hSw; (try dsimp only at hSw); go_simp <;> rfl)
      simp only [Act.put, lz0, lz1, lz2, lz3, lz4, lz5]
      refine wpAnyH_take (i := 18) (oi := _) (v := ?_) rfl (by kernel_rfl) (by kernel_rfl) (by kernel_rfl) (fun _ _ _ h => h) (Or.inl ⟨by rfl, ?_⟩) (by assumption) ?_
      rotate_left
      · (intro w hSw; (try dsimp only at hSw); go_simp <;> rfl)
      simp only [Act.put, lz0, lz1, lz2, lz3, lz4, lz5]
      refine wpAnyH_take (i := 19) (oi := _) (v := ?_) rfl (by kernel_rfl) (by kernel_rfl) (by kernel_rfl) (fun _ _ _ h => h) (Or.inl ⟨by rfl, ?_⟩) (by assumption) ?_
      rotate_left
      · (intro w hSw; (try dsimp only at hSw); go_simp <;> rfl)
      simp only [Act.put, lz0, lz1, lz2, lz3, lz4, lz5]
      refine wpAnyH_take (i := 20) (oi := _) (v := ?_) rfl (by kernel_rfl) (by kernel_rfl) (by kernel_rfl) (fun _ _ _ h => h) (Or.inl ⟨by rfl, ?_⟩) (by assumption) ?_
      rotate_left
      · (intro w hSw; have el := en_lt hSw; (try dsimp only at hSw); go_simp <;> rfl)
      simp only [Act.put, lz0, lz1, lz2, lz3, lz4, lz5]
      refine wpAnyH_take (i := 21) (oi := _) (v := ?_) rfl (by kernel_rfl) (by kernel_rfl) (by kernel_rfl) (fun _ _ _ h => h) (Or.inl ⟨by rfl, ?_⟩) (by assumption) ?_
      rotate_left
      · (intro w hSw; have el := en_lt hSw; (try dsimp only at hSw); go_simp <;> rfl)
      simp only [Act.put, lz0, lz1, lz2, lz3, lz4, lz5]
      refine wpAnyH_take (i := 22) (oi := _) (v := ?_) rfl (by kernel_rfl) (by kernel_rfl) (by kernel_rfl) (fun _ _ _ h => h) (Or.inl ⟨by rfl, ?_⟩) (by assumption) ?_
      rotate_left
      · (intro w hSw; have el := en_lt hSw; (try dsimp only at hSw); go_simp <;> rfl)
      simp only [Act.put, lz0, lz1, lz2, lz3, lz4, lz5]
      refine wpAnyH_take (i := 23) (oi := _) (v := ?_) rfl (by kernel_rfl) (by kernel_rfl) (by kernel_rfl) (fun _ _ _ h => h) (Or.inl ⟨by rfl, ?_⟩) (by assumption) ?_
      rotate_left
      · (intro w hSw; have el := en_lt hSw; have ek := cell_at (k := 9) (en_heap hSw); rw [show (envCells s1.C vb bb)[9]? = some (.int .u32 (s1.C.flags : Nat)) from rfl] at ek; rw [HD.out.2.2.1] at ek; (try dsimp only at hSw); go_simp <;> rfl)
      simp only [Act.put, lz0, lz1, lz2, lz3, lz4, lz5]
      refine wpAnyH_take (i := 24) (oi := _) (v := ?_) rfl (by kernel_rfl) (by kernel_rfl) (by kernel_rfl) (fun _ _ _ h => h) (Or.inl ⟨by rfl, ?_⟩) (by assumption) ?_
      rotate_left
      · (intro w hSw; have cl := (box_cells hSw (i := 1) rfl).2.2; (try dsimp only at hSw); go_simp <;> rfl)
      simp only [Act.put, lz0, lz1, lz2, lz3, lz4, lz5]
      refine wpAnyH_take (i := 25) (oi := _) (v := ?_) rfl (by kernel_rfl) (by kernel_rfl) (by kernel_rfl) (fun _ _ _ h => h) (Or.inl ⟨by rfl, ?_⟩) (by assumption) ?_
      rotate_left
      · (intro w hSw; have cl := (box_cells hSw (i := 1) rfl).2.2; have ck := (box_cells hSw (i := 1) rfl).1 9; rw [show C0.cells.toArray[9]? = some (.int .u32 (C0.flags : Nat)) from rfl] at ck; (try dsimp only at hSw); go_simp <;> rfl)
      simp only [Act.put, lz0, lz1, lz2, lz3, lz4, lz5]
      refine wpAnyH_take (i := 26) (oi := _) (v := .bool true) rfl (by kernel_rfl) (by kernel_rfl) (by kernel_rfl) (fun _ _ _ h => h) (Or.inl ⟨by rfl, ?_⟩) (by assumption) ?_
      · (intro w hSw; (try dsimp only at hSw); go_simp <;> simp)
      simp only [Act.put, lz0, lz1, lz2, lz3, lz4, lz5]
      refine wpAnyH_take (i := 27) (oi := _) (v := ?_) rfl (by kernel_rfl) (by kernel_rfl) (by kernel_rfl) (fun _ _ _ h => h) (Or.inl ⟨by rfl, ?_⟩) (by assumption) ?_
      rotate_left
      · (intro w hSw; (try dsimp only at hSw); go_simp <;> rfl)
      simp only [Act.put, lz0, lz1, lz2, lz3, lz4, lz5]
      refine wpAnyH_take (i := 28) (oi := _) (v := ?_) rfl (by kernel_rfl) (by kernel_rfl) (by kernel_rfl) (fun _ _ _ h => h) (Or.inl ⟨by rfl, ?_⟩) (by assumption) ?_
      rotate_left
      · (intro w hSw; (try dsimp only at hSw); go_simp <;> rfl)
      simp only [Act.put, lz0, lz1, lz2, lz3, lz4, lz5]
      refine wpAnyH_take (i := 29) (oi := _) (v := ?_) rfl (by kernel_rfl) (by kernel_rfl) (by kernel_rfl) (fun _ _ _ h => h) (Or.inl ⟨by rfl, ?_⟩) (by assumption) ?_
      rotate_left
      · (intro w hSw; (try dsimp only at hSw); go_simp <;> rfl)
      simp only [Act.put, lz0, lz1, lz2, lz3, lz4, lz5]
      refine wpAnyH_take (i := 30) (oi := _) (v := ?_) rfl (by kernel_rfl) (by kernel_rfl) (by kernel_rfl) (fun _ _ _ h => h) (Or.inl ⟨by rfl, ?_⟩) (by assumption) ?_
      rotate_left
      · (intro w hSw; have el := en_lt hSw; (try dsimp only at hSw); go_simp <;> rfl)
      simp only [Act.put, lz0, lz1, lz2, lz3, lz4, lz5]
      refine wpAnyH_take (i := 31) (oi := _) (v := ?_) rfl (by kernel_rfl) (by kernel_rfl) (by kernel_rfl) (fun _ _ _ h => h) (Or.inl ⟨by rfl, ?_⟩) (by assumption) ?_
      rotate_left
      · (intro w hSw; have el := en_lt hSw; (try dsimp only at hSw); go_simp <;> rfl)
      simp only [Act.put, lz0, lz1, lz2, lz3, lz4, lz5]
      refine wpAnyH_take (i := 32) (oi := _) (v := ?_) rfl (by kernel_rfl) (by kernel_rfl) (by kernel_rfl) (fun _ _ _ h => h) (Or.inl ⟨by rfl, ?_⟩) (by assumption) ?_
      rotate_left
      · (intro w hSw; have el := en_lt hSw; (try dsimp only at hSw); go_simp <;> rfl)
      simp only [Act.put, lz0, lz1, lz2, lz3, lz4, lz5]
      refine wpAnyH_take (i := 33) (oi := _) (v := _) rfl (by kernel_rfl) (by kernel_rfl) (by kernel_rfl) (fun _ _ _ h => h) (yieldsIf_load_mid (by rfl) _ _ rfl eb _ rfl (segCells C0.seg) _ (fun _ h => (by rw [← HD.out.2.2.2]; exact segs_range (env_range h))) Tryz.underlying32 rfl (segs_info _)) (by assumption) ?_
      simp only [Act.put, lz0, lz1, lz2, lz3, lz4, lz5]
      refine wpAnyH_take (i := 34) (oi := _) (v := ?_) rfl (by kernel_rfl) (by kernel_rfl) (by kernel_rfl) (fun _ _ _ h => h) (Or.inl ⟨by rfl, ?_⟩) (by assumption) ?_
      rotate_left
      · (intro w hSw; have cl := (box_cells hSw (i := 1) rfl).2.2; (try dsimp only at hSw); go_simp <;> rfl)
      simp only [Act.put, lz0, lz1, lz2, lz3, lz4, lz5]
      refine wpAnyH_take (i := 35) (oi := _) (v := _) rfl (by kernel_rfl) (by kernel_rfl) (by kernel_rfl) (fun _ _ _ h => h) (yieldsIf_load_mid (by rfl) _ _ rfl cb _ rfl (segCells C0.seg) _ (fun _ h => segs_range (box_range (i := 1) h rfl)) Tryz.underlying32 rfl (segs_info _)) (by assumption) ?_
      simp only [Act.put, lz0, lz1, lz2, lz3, lz4, lz5]
      refine wpAnyH_take (i := 36) (oi := _) (v := .bool true) rfl (by kernel_rfl) (by kernel_rfl) (by kernel_rfl) (fun _ _ _ h => h) (yieldsIf_eql (by rfl) 32 _ _ _ rfl (segCells C0.seg).toArray rfl rfl (by kernel_rfl) (eq_segs _)) (by assumption) ?_
      simp only [Act.put, lz0, lz1, lz2, lz3, lz4, lz5]
      refine wpAnyH_take (i := 37) (oi := _) (v := ?_) rfl (by kernel_rfl) (by kernel_rfl) (by kernel_rfl) (fun _ _ _ h => h) (Or.inl ⟨by rfl, ?_⟩) (by assumption) ?_
      rotate_left
      · (intro w hSw; (try dsimp only at hSw); go_simp <;> rfl)
      simp only [Act.put, lz0, lz1, lz2, lz3, lz4, lz5]
      refine wpAnyH_take (i := 38) (oi := _) (v := ?_) rfl (by kernel_rfl) (by kernel_rfl) (by kernel_rfl) (fun _ _ _ h => h) (Or.inl ⟨by rfl, ?_⟩) (by assumption) ?_
      rotate_left
      · (intro w hSw; (try dsimp only at hSw); go_simp <;> rfl)
      simp only [Act.put, lz0, lz1, lz2, lz3, lz4, lz5]
      refine wpAnyH_done (by kernel_rfl) ?_ _
      go_wp2_with fail
      go_returns
      exact ⟨rfl, hHeld.below⟩
    · rw [e1] at k82
      have g0 := cell_at (k := 21) (en_heap HT5.out)
      rw [show (envCells s1.C vb bb)[21]? = some (.int .u32 ((s1.C.seg 1).base : Nat)) from rfl] at g0
      have g1 := cell_at (k := 22) (en_heap HT5.out)
      rw [show (envCells s1.C vb bb)[22]? = some (.int .u32 ((s1.C.seg 1).lim : Nat)) from rfl] at g1
      have g2 := cell_at (k := 23) (en_heap HT5.out)
      rw [show (envCells s1.C vb bb)[23]? = some (.int .i64 (s1.C.seg 1).typ) from rfl] at g2
      have g3 := cell_at (k := 24) (en_heap HT5.out)
      rw [show (envCells s1.C vb bb)[24]? = some (.bool (s1.C.seg 1).sys) from rfl] at g3
      have g4 := cell_at (k := 25) (en_heap HT5.out)
      rw [show (envCells s1.C vb bb)[25]? = some (.int .i64 (s1.C.seg 1).dpl) from rfl] at g4
      have g5 := cell_at (k := 26) (en_heap HT5.out)
      rw [show (envCells s1.C vb bb)[26]? = some (.bool (s1.C.seg 1).pre) from rfl] at g5
      have g6 := cell_at (k := 27) (en_heap HT5.out)
      rw [show (envCells s1.C vb bb)[27]? = some (.bool (s1.C.seg 1).big) from rfl] at g6
      rw [e3] at g3
      go_upto_region 12 with (fail)
      have HH := Lib.hid (show Hp w (fun _ => False) (w5.alloc (.cells #[.int .u32 ((s1.C.seg 1).base : Nat), .int .u32 ((s1.C.seg 1).lim : Nat), .int .i64 (s1.C.seg 1).typ, .bool false, .int .i64 (s1.C.seg 1).dpl, .bool (s1.C.seg 1).pre, .bool (s1.C.seg 1).big] 29)).drew [oEn eb vb bb ⟨8, pm⟩ 160 s1, Ob.box cb (.cells C0.cells.toArray 36), Ob.box w5.heap.size (.cells #[.int .u32 ((s1.C.seg 1).base : Nat), .int .u32 ((s1.C.seg 1).lim : Nat), .int .i64 (s1.C.seg 1).typ, .bool false, .int .i64 (s1.C.seg 1).dpl, .bool (s1.C.seg 1).pre, .bool (s1.C.seg 1).big] 29)] from (HT5.out.make _).drew)
      have HD := Lib.hid (And.intro e2 (And.intro e3 (And.intro e4 (And.intro e5 e6))))
      clear e1 e2 e3 e4 e5 e6 hel k82 g0 g1 g2 g3 g4 g5 g6
      change Code.wp _ _ _ _ (w5.alloc (.cells #[.int .u32 ((s1.C.seg 1).base : Nat), .int .u32 ((s1.C.seg 1).lim : Nat), .int .i64 (s1.C.seg 1).typ, .bool false, .int .i64 (s1.C.seg 1).dpl, .bool (s1.C.seg 1).pre, .bool (s1.C.seg 1).big] 29))
      generalize w5.alloc (.cells #[.int .u32 ((s1.C.seg 1).base : Nat), .int .u32 ((s1.C.seg 1).lim : Nat), .int .i64 (s1.C.seg 1).typ, .bool false, .int .i64 (s1.C.seg 1).dpl, .bool (s1.C.seg 1).pre, .bool (s1.C.seg 1).big] 29) = w6 at *
      generalize w5.heap.size = db at *
      refine wp_region_held_drew (S := fun w' => Hp w (fun _ => False) w' [oEn eb vb bb ⟨8, pm⟩ 160 s1, Ob.box cb (.cells C0.cells.toArray 36), Ob.box db (.cells #[.int .u32 ((s1.C.seg 1).base : Nat), .int .u32 ((s1.C.seg 1).lim : Nat), .int .i64 (s1.C.seg 1).typ, .bool false, .int .i64 (s1.C.seg 1).dpl, .bool (s1.C.seg 1).pre, .bool (s1.C.seg 1).big] 29)]) (by kernel_rfl) HH.out (fun hHeld => ?_)
      refine wpAnyH_take (i := 0) (oi := _) (v := ?_) rfl (by kernel_rfl) (by kernel_rfl) (by kernel_rfl) (fun _ _ _ h => h) (Or.inl ⟨by rfl, ?_⟩) (by assumption) ?_
      rotate_left
      · (intro w hSw; (try dsimp only at hSw); go_simp <;> rfl)
      simp only [Act.put, lz0, lz1, lz2, lz3, lz4, lz5]
      refine wpAnyH_take (i := 1) (oi := _) (v := ?_) rfl (by kernel_rfl) (by kernel_rfl) (by kernel_rfl) (fun _ _ _ h => h) (Or.inl ⟨by rfl, ?_⟩) (by assumption) ?_
      rotate_left
      · (intro w hSw; have el := en_lt hSw; (try dsimp only at hSw); go_simp <;> rfl)
      simp only [Act.put, lz0, lz1, lz2, lz3, lz4, lz5]
      refine wpAnyH_take (i := 2) (oi := _) (v := ?_) rfl (by kernel_rfl) (by kernel_rfl) (by kernel_rfl) (fun _ _ _ h => h) (Or.inl ⟨by rfl, ?_⟩) (by assumption) ?_
      rotate_left
      · (intro w hSw; have el := en_lt hSw; (try dsimp only at hSw); go_simp <;> rfl)
      simp only [Act.put, lz0, lz1, lz2, lz3, lz4, lz5]
      refine wpAnyH_take (i := 3) (oi := _) (v := ?_) rfl (by kernel_rfl) (by kernel_rfl) (by kernel_rfl) (fun _ _ _ h => h) (Or.inl ⟨by rfl, ?_⟩) (by assumption) ?_
      rotate_left
      · (intro w hSw; have el := en_lt hSw; (try dsimp only at hSw); go_simp <;> rfl)
      simp only [Act.put, lz0, lz1, lz2, lz3, lz4, lz5]
      refine wpAnyH_take (i := 4) (oi := _) (v := ?_) rfl (by kernel_rfl) (by kernel_rfl) (by kernel_rfl) (fun _ _ _ h => h) (Or.inl ⟨by rfl, ?_⟩) (by assumption) ?_
      rotate_left
      · (intro w hSw; have el := en_lt hSw; have ek := cell_at (k := 8) (en_heap hSw); rw [show (envCells s1.C vb bb)[8]? = some (.int .u32 (s1.C.eip : Nat)) from rfl] at ek; (try dsimp only at hSw); go_simp <;> rfl)
      simp only [Act.put, lz0, lz1, lz2, lz3, lz4, lz5]
      refine wpAnyH_take (i := 5) (oi := _) (v := ?_) rfl (by kernel_rfl) (by kernel_rfl) (by kernel_rfl) (fun _ _ _ h => h) (Or.inl ⟨by rfl, ?_⟩) (by assumption) ?_
      rotate_left
      · (intro w hSw; have dl := (box_cells hSw (i := 2) rfl).2.2; (try dsimp only at hSw); go_simp <;> rfl)
      simp only [Act.put, lz0, lz1, lz2, lz3, lz4, lz5]
      refine wpAnyH_take (i := 6) (oi := _) (v := ?_) rfl (by kernel_rfl) (by kernel_rfl) (by kernel_rfl) (fun _ _ _ h => h) (Or.inl ⟨by rfl, ?_⟩) (by assumption) ?_
      rotate_left
      · (intro w hSw; have d1 := (box_cells hSw (i := 2) rfl).1 1; have dl := (box_cells hSw (i := 2) rfl).2.2; simp at d1; (try dsimp only at hSw); go_simp <;> rfl)
      simp only [Act.put, lz0, lz1, lz2, lz3, lz4, lz5]
      refine wpAnyH_take (i := 7) (oi := _) (v := .bool true) rfl (by kernel_rfl) (by kernel_rfl) (by kernel_rfl) (fun _ _ _ h => h) (Or.inl ⟨by rfl, ?_⟩) (by assumption) ?_
      · (intro w hSw; (try dsimp only at hSw); go_simp <;> (first | exact_mod_cast HD.out.1 | omega | (simp; exact HD.out.1)))
      simp only [Act.put, lz0, lz1, lz2, lz3, lz4, lz5]
      refine wpAnyH_take (i := 8) (oi := _) (v := ?_) rfl (by kernel_rfl) (by kernel_rfl) (by kernel_rfl) (fun _ _ _ h => h) (Or.inl ⟨by rfl, ?_⟩) (by assumption) ?_
      rotate_left
      · (intro w hSw; (try dsimp only at hSw); go_simp <;> rfl)
      simp only [Act.put, lz0, lz1, lz2, lz3, lz4, lz5]
      refine wpAnyH_take (i := 9) (oi := _) (v := ?_) rfl (by kernel_rfl) (by kernel_rfl) (by kernel_rfl) (fun _ _ _ h => h) (Or.inl ⟨by rfl, ?_⟩) (by assumption) ?_
      rotate_left
      · (intro w hSw; have dl := (box_cells hSw (i := 2) rfl).2.2; (try dsimp only at hSw); go_simp <;> rfl)
      simp only [Act.put, lz0, lz1, lz2, lz3, lz4, lz5]
      refine wpAnyH_take (i := 10) (oi := _) (v := ?_) rfl (by kernel_rfl) (by kernel_rfl) (by kernel_rfl) (fun _ _ _ h => h) (Or.inl ⟨by rfl, ?_⟩) (by assumption) ?_
      rotate_left
      · (intro w hSw; have d3 := (box_cells hSw (i := 2) rfl).1 3; have dl := (box_cells hSw (i := 2) rfl).2.2; simp at d3; (try dsimp only at hSw); go_simp <;> rfl)
      simp only [Act.put, lz0, lz1, lz2, lz3, lz4, lz5]
      refine wpAnyH_take (i := 11) (oi := _) (v := ?_) rfl (by kernel_rfl) (by kernel_rfl) (by kernel_rfl) (fun _ _ _ h => h) (Or.inl ⟨by rfl, ?_⟩) (by assumption) ?_
      rotate_left
      · (intro w hSw; (try dsimp only at hSw); go_simp <;> rfl)
      simp only [Act.put, lz0, lz1, lz2, lz3, lz4, lz5]
      refine wpAnyH_take (i := 12) (oi := _) (v := ?_) rfl (by kernel_rfl) (by kernel_rfl) (by kernel_rfl) (fun _ _ _ h => h) (Or.inl ⟨by rfl, ?_⟩) (by assumption) ?_
      rotate_left
      · (intro w hSw; (try dsimp only at hSw); go_simp <;> rfl)
      simp only [Act.put, lz0, lz1, lz2, lz3, lz4, lz5]
      refine wpAnyH_take (i := 13) (oi := _) (v := ?_) rfl (by kernel_rfl) (by kernel_rfl) (by kernel_rfl) (fun _ _ _ h => h) (Or.inl ⟨by rfl, ?_⟩) (by assumption) ?_
      rotate_left
      · (intro w hSw; (try dsimp only at hSw); go_simp <;> rfl)
      simp only [Act.put, lz0, lz1, lz2, lz3, lz4, lz5]
      refine wpAnyH_take (i := 14) (oi := _) (v := ?_) rfl (by kernel_rfl) (by kernel_rfl) (by kernel_rfl) (fun _ _ _ h => h) (Or.inl ⟨by rfl, ?_⟩) (by assumption) ?_
      rotate_left
      · (intro w hSw; have dl := (box_cells hSw (i := 2) rfl).2.2; (try dsimp only at hSw); go_simp <;> rfl)
      simp only [Act.put, lz0, lz1, lz2, lz3, lz4, lz5]
      refine wpAnyH_take (i := 15) (oi := _) (v := ?_) rfl (by kernel_rfl) (by kernel_rfl) (by kernel_rfl) (fun _ _ _ h => h) (Or.inl ⟨by rfl, ?_⟩) (by assumption) ?_
      rotate_left
      · (intro w hSw; have d2 := (box_cells hSw (i := 2) rfl).1 2; have dl := (box_cells hSw (i := 2) rfl).2.2; simp at d2; (try dsimp only at hSw); go_simp <;> rfl)
      simp only [Act.put, lz0, lz1, lz2, lz3, lz4, lz5]
      refine wpAnyH_take (i := 16) (oi := _) (v := .bool true) rfl (by kernel_rfl) (by kernel_rfl) (by kernel_rfl) (fun _ _ _ h => h) (Or.inl ⟨by rfl, ?_⟩) (by assumption) ?_
      · (intro w hSw; (try dsimp only at hSw); go_simp <;> (first | exact HD.out.2.2.1 | omega | (simp; exact HD.out.2.2.1)))
      simp only [Act.put, lz0, lz1, lz2, lz3, lz4, lz5]
      refine wpAnyH_take (i := 17) (oi := _) (v := ?_) rfl (by kernel_rfl) (by kernel_rfl) (by kernel_rfl) (fun _ _ _ h => h) (Or.inl ⟨by rfl, ?_⟩) (by assumption) ?_
      rotate_left
      · (intro w hSw; (try dsimp only at hSw); go_simp <;> rfl)
      simp only [Act.put, lz0, lz1, lz2, lz3, lz4, lz5]
      refine wpAnyH_take (i := 18) (oi := _) (v := ?_) rfl (by kernel_rfl) (by kernel_rfl) (by kernel_rfl) (fun _ _ _ h => h) (Or.inl ⟨by rfl, ?_⟩) (by assumption) ?_
      rotate_left
      · (intro w hSw; (try dsimp only at hSw); go_simp <;> rfl)
      simp only [Act.put, lz0, lz1, lz2, lz3, lz4, lz5]
      refine wpAnyH_take (i := 19) (oi := _) (v := ?_) rfl (by kernel_rfl) (by kernel_rfl) (by kernel_rfl) (fun _ _ _ h => h) (Or.inl ⟨by rfl, ?_⟩) (by assumption) ?_
      rotate_left
      · (intro w hSw; (try dsimp only at hSw); go_simp <;> rfl)
      simp only [Act.put, lz0, lz1, lz2, lz3, lz4, lz5]
      refine wpAnyH_take (i := 20) (oi := _) (v := ?_) rfl (by kernel_rfl) (by kernel_rfl) (by kernel_rfl) (fun _ _ _ h => h) (Or.inl ⟨by rfl, ?_⟩) (by assumption) ?_
      rotate_left
      · (intro w hSw; have el := en_lt hSw; (try dsimp only at hSw); go_simp <;> rfl)
      simp only [Act.put, lz0, lz1, lz2, lz3, lz4, lz5]
      refine wpAnyH_take (i := 21) (oi := _) (v := ?_) rfl (by kernel_rfl) (by kernel_rfl) (by kernel_rfl) (fun _ _ _ h => h) (Or.inl ⟨by rfl, ?_⟩) (by assumption) ?_
      rotate_left
      · (intro w hSw; have el := en_lt hSw; (try dsimp only at hSw); go_simp <;> rfl)
      simp only [Act.put, lz0, lz1, lz2, lz3, lz4, lz5]
      refine wpAnyH_take (i := 22) (oi := _) (v := ?_) rfl (by kernel_rfl) (by kernel_rfl) (by kernel_rfl) (fun _ _ _ h => h) (Or.inl ⟨by rfl, ?_⟩) (by assumption) ?_
      rotate_left
      · (intro w hSw; have el := en_lt hSw; (try dsimp only at hSw); go_simp <;> rfl)
      simp only [Act.put, lz0, lz1, lz2, lz3, lz4, lz5]
      refine wpAnyH_take (i := 23) (oi := _) (v := ?_) rfl (by kernel_rfl) (by kernel_rfl) (by kernel_rfl) (fun _ _ _ h => h) (Or.inl ⟨by rfl, ?_⟩) (by assumption) ?_
      rotate_left
      · (intro w hSw; have el := en_lt hSw; have ek := cell_at (k := 81) (en_heap hSw); rw [show (envCells s1.C vb bb)[81]? = some (.bool s1.C.halted) from rfl] at ek; rw [HD.out.2.2.2.1] at ek; (try dsimp only at hSw); go_simp <;> rfl)
      simp only [Act.put, lz0, lz1, lz2, lz3, lz4, lz5]
      refine wpAnyH_take (i := 24) (oi := _) (v := ?_) rfl (by kernel_rfl) (by kernel_rfl) (by kernel_rfl) (fun _ _ _ h => h) (Or.inl ⟨by rfl, ?_⟩) (by assumption) ?_
      rotate_left
      · (intro w hSw; (try dsimp only at hSw); go_simp <;> rfl)
      simp only [Act.put, lz0, lz1, lz2, lz3, lz4, lz5]
      refine wpAnyH_take (i := 25) (oi := _) (v := ?_) rfl (by kernel_rfl) (by kernel_rfl) (by kernel_rfl) (fun _ _ _ h => h) (Or.inl ⟨by rfl, ?_⟩) (by assumption) ?_
      rotate_left
      · (intro w hSw; (try dsimp only at hSw); go_simp <;> rfl)
      simp only [Act.put, lz0, lz1, lz2, lz3, lz4, lz5]
      refine wpAnyH_take (i := 26) (oi := _) (v := ?_) rfl (by kernel_rfl) (by kernel_rfl) (by kernel_rfl) (fun _ _ _ h => h) (Or.inl ⟨by rfl, ?_⟩) (by assumption) ?_
      rotate_left
      · (intro w hSw; (try dsimp only at hSw); go_simp <;> rfl)
      simp only [Act.put, lz0, lz1, lz2, lz3, lz4, lz5]
      refine wpAnyH_take (i := 27) (oi := _) (v := ?_) rfl (by kernel_rfl) (by kernel_rfl) (by kernel_rfl) (fun _ _ _ h => h) (Or.inl ⟨by rfl, ?_⟩) (by assumption) ?_
      rotate_left
      · (intro w hSw; (try dsimp only at hSw); go_simp <;> rfl)
      simp only [Act.put, lz0, lz1, lz2, lz3, lz4, lz5]
      refine wpAnyH_take (i := 28) (oi := _) (v := ?_) rfl (by kernel_rfl) (by kernel_rfl) (by kernel_rfl) (fun _ _ _ h => h) (Or.inl ⟨by rfl, ?_⟩) (by assumption) ?_
      rotate_left
      · (intro w hSw; have el := en_lt hSw; (try dsimp only at hSw); go_simp <;> rfl)
      simp only [Act.put, lz0, lz1, lz2, lz3, lz4, lz5]
      refine wpAnyH_take (i := 29) (oi := _) (v := ?_) rfl (by kernel_rfl) (by kernel_rfl) (by kernel_rfl) (fun _ _ _ h => h) (Or.inl ⟨by rfl, ?_⟩) (by assumption) ?_
      rotate_left
      · (intro w hSw; have el := en_lt hSw; (try dsimp only at hSw); go_simp <;> rfl)
      simp only [Act.put, lz0, lz1, lz2, lz3, lz4, lz5]
      refine wpAnyH_take (i := 30) (oi := _) (v := ?_) rfl (by kernel_rfl) (by kernel_rfl) (by kernel_rfl) (fun _ _ _ h => h) (Or.inl ⟨by rfl, ?_⟩) (by assumption) ?_
      rotate_left
      · (intro w hSw; have el := en_lt hSw; (try dsimp only at hSw); go_simp <;> rfl)
      simp only [Act.put, lz0, lz1, lz2, lz3, lz4, lz5]
      refine wpAnyH_take (i := 31) (oi := _) (v := ?_) rfl (by kernel_rfl) (by kernel_rfl) (by kernel_rfl) (fun _ _ _ h => h) (Or.inl ⟨by rfl, ?_⟩) (by assumption) ?_
      rotate_left
      · (intro w hSw; have el := en_lt hSw; have ek := cell_at (k := 80) (en_heap hSw); rw [show (envCells s1.C vb bb)[80]? = some (.bool s1.C.shadow) from rfl] at ek; rw [HD.out.2.2.2.2] at ek; (try dsimp only at hSw); go_simp <;> rfl)
      simp only [Act.put, lz0, lz1, lz2, lz3, lz4, lz5]
      refine wpAnyH_take (i := 32) (oi := _) (v := ?_) rfl (by kernel_rfl) (by kernel_rfl) (by kernel_rfl) (fun _ _ _ h => h) (Or.inl ⟨by rfl, ?_⟩) (by assumption) ?_
      rotate_left
      · (intro w hSw; (try dsimp only at hSw); go_simp <;> rfl)
      simp only [Act.put, lz0, lz1, lz2, lz3, lz4, lz5]
      refine wpAnyH_take (i := 33) (oi := _) (v := ?_) rfl (by kernel_rfl) (by kernel_rfl) (by kernel_rfl) (fun _ _ _ h => h) (Or.inl ⟨by rfl, ?_⟩) (by assumption) ?_
      rotate_left
      · (intro w hSw; (try dsimp only at hSw); go_simp <;> rfl)
      simp only [Act.put, lz0, lz1, lz2, lz3, lz4, lz5]
      refine wpAnyH_take (i := 34) (oi := _) (v := ?_) rfl (by kernel_rfl) (by kernel_rfl) (by kernel_rfl) (fun _ _ _ h => h) (Or.inl ⟨by rfl, ?_⟩) (by assumption) ?_
      rotate_left
      · (intro w hSw; (try dsimp only at hSw); go_simp <;> rfl)
      simp only [Act.put, lz0, lz1, lz2, lz3, lz4, lz5]
      refine wpAnyH_done (by kernel_rfl) ?_ _
      go_wp2_with fail
      go_returns
      exact ⟨rfl, hHeld.below⟩

set_option maxRecDepth 100000 in
theorem lifted (os : Os) (started : os.Started) (H : Type) (enc : TypeId × Value → H) :
    ReturnsInHanded {} Tryz.checked os 6 .any (Rows.exceptEndsSpec.pre6 enc Tryz.prog Tryz.f6 Rows.exceptEndsRow.domain false) (Rows.exceptEndsSpec.post enc Tryz.prog Tryz.f6 false true false false) := by
  refine returnsInHanded_of_change (C := Tryz.checked) own started (by kernel_rfl) Tryz.func6
    (ChangeSpec.witness6 (enc := enc) (C := Tryz.checked) false ⟨#[], #[.agg #[.int .u32 0, .int .u32 0, .int .u32 0, .int .u32 0, .int .u32 0, .int .u32 0, .int .u32 0, .int .u32 0, .int .u32 0, .int .u32 0, .int .u16 0, .bool false, .int .u32 0, .int .u32 0, .int .i64 0, .bool false, .int .i64 0, .bool false, .bool false, .int .u16 0, .bool false, .int .u32 0, .int .u32 0, .int .i64 0, .bool false, .int .i64 0, .bool false, .bool false, .int .u16 0, .bool false, .int .u32 0, .int .u32 0, .int .i64 0, .bool false, .int .i64 0, .bool false, .bool false, .int .u16 0, .bool false, .int .u32 0, .int .u32 0, .int .i64 0, .bool false, .int .i64 0, .bool false, .bool false, .int .u16 0, .bool false, .int .u32 0, .int .u32 0, .int .i64 0, .bool false, .int .i64 0, .bool false, .bool false, .int .u16 0, .bool false, .int .u32 0, .int .u32 0, .int .i64 0, .bool false, .int .i64 0, .bool false, .bool false, .int .u32 0, .int .u32 0, .int .u32 0, .int .u32 0, .int .u16 0, .int .u32 0, .int .u16 0, .int .u16 0, .bool false, .int .u32 0, .int .u32 0, .int .i64 0, .bool false, .int .i64 0, .bool false, .bool false, .bool false, .bool false, .bool false], .slice none 0 0, .int .i64 0, .int .i64 0], []⟩ 8 (by kernel_rfl) (by kernel_rfl) (by kernel_rfl) (by kernel_rfl)) ?_
  intro W base args ds gs before hval0 hW hcnd _
  have hval : ∀ (j : Nat) t v, Tryz.f6.params[j]? = some t → args[j]? = some v → Value.okWide Tryz.prog W .any base t v := hval0
  have hW' := hW
  obtain ⟨p, q, hA0, hV, rfl, hfz, hnd⟩ := hW
  have hA : DataW.TrodAll enc Tryz.prog W 0 (fun _ => true) true Tryz.f6.params.toList args.toList ds p := hA0
  rw [Tryz.params6] at hA hval
  obtain ⟨v0, vs0, d0, ds0, p0, q0, hargs, rfl, rfl, h0, r0⟩ := trodAll_cons hA
  obtain ⟨v1, vs1, d1, ds1, p1, q1, rfl, rfl, rfl, h1, r1⟩ := trodAll_cons r0
  obtain ⟨v2, vs2, d2, ds2, p2, q2, rfl, rfl, rfl, h2, r2⟩ := trodAll_cons r1
  obtain ⟨v3, vs3, d3, ds3, p3, q3, rfl, rfl, rfl, h3, r3⟩ := trodAll_cons r2
  obtain ⟨rfl, rfl, rfl⟩ := trodAll_nil r3
  obtain rfl : args = #[v0, v1, v2, v3] := by cases args; simp_all
  clear hA0 hval0
  obtain ⟨C0, hC0, rfl⟩ := open_cpu (hval 0 36 v0 rfl rfl)
  obtain ⟨a1, n1, c1, t1, x1, rfl, m1, J1⟩ := arg_words (hval 1 51 v1 rfl rfl) h1
  obtain ⟨a2, rfl, l2, u2⟩ := arg_int Tryz.underlying3 (hval 2 3 v2 rfl rfl)
  obtain ⟨a3, rfl, l3, u3⟩ := arg_int Tryz.underlying3 (hval 3 3 v3 rfl rfl)
  exact law_end (by kernel_rfl) hW' rfl (by kernel_rfl) Tryz.underlying4 rfl rfl (walk C0 hC0 a1 n1 c1 t1 x1 W J1 m1 a2 l2 u2 a3 l3 u3)

theorem proved : Rows.ExceptEndsSaid :=
  OpenClaim.holds_of_wide 6 Tryz.f6 rfl rfl rfl rfl rfl rfl rfl ⟨rfl, rfl, rfl, rfl, rfl⟩ rfl rfl rfl rfl rfl (by kernel_rfl) Tryz.func6 (by kernel_rfl)
    (of_decide_eq_true (by kernel_rfl)) (by unfold Func.isWrapper; first | (rw [if_pos (by decide +kernel)]; kernel_rfl) | (rw [if_neg (by decide +kernel)]; exact ⟨rfl, rfl⟩))
    (fun os started H enc _ => lifted os started H enc)
#print axioms proved
end Go.Proofs.YtmpcafdgkbpneaaGreat.exceptEnds
