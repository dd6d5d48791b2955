/- Steps of a proof: ExLaw, ExStart3, ExRefP, ExPl, ExEnt, ExPu, ExBk, ExRfL, together. -/
import Derived.Test.YtmpcafdgkbpneaaGreatS40
import Derived.Test.YtmpcafdgkbpneaaGreatS39
/- except's laws: what their walks lean on. -/
open List renaming getElem_toArray → lz0, getElem_cons_zero → lz1, getElem_cons_succ → lz2, setIfInBounds_toArray → lz3, set_cons_zero → lz4, set_cons_succ → lz5
namespace Go.Proofs.YtmpcafdgkbpneaaGreat
open Go.RowKit Go.MapKept
set_option linter.unusedVariables false

section
variable {w0 w w' w1 w2 : World} {A0 : Nat → Prop} {os os' : List Ob} {o : Ob}
theorem Hp.join (T : Hp w0 A0 w1 os) (U : Hp w1 (fun _ => False) w2 os') : Hp w0 A0 w2 (os' ++ os) := by
 have hb := U.below
 obtain ⟨A, a, M⟩ := U
 have h := T.new hb (o := Ob.all os') (A := A) a fun k hk => (M.2 k hk).elim False.elim id
 exact (Hp.rot h).open_
end
def vecN (v : Int) : Int := if v < 0 then -(v + 1) else v
theorem vecN_pos (v : Int) : 0 ≤ vecN v := by unfold vecN; split <;> omega
theorem vecN_mod (v : Int) (k : Nat) (hk : 0 < k) : ∃ n : Nat, n < k ∧ vecN v % (k : Int) = (n : Int) := by
 have h1 := Int.emod_nonneg (vecN v) (show (k : Int) ≠ 0 by omega)
 have h2 := Int.emod_lt_of_pos (vecN v) (show (0 : Int) < k by omega)
 exact ⟨(vecN v % (k : Int)).toNat, by omega, by omega⟩
end Go.Proofs.YtmpcafdgkbpneaaGreat

/- except's laws: what they start from, in ring 3. -/
namespace Go.Proofs.YtmpcafdgkbpneaaGreat
open Go.RowKit Go.MapKept
set_option linter.unusedVariables false
set_option linter.unusedSimpArgs false
attribute [local go_sem ↓] Go.wp_at_zero Go.wp_at_succ

section
theorem startC3_ok : (startC 3).ok := by
 refine ⟨fun i => ?_, by decide, by decide, fun i => ?_, by decide, by decide, by decide, by decide, by decide, by decide, by decide, ?_⟩
 ·show (if i = 4 then 36864 else 0) < _
  split <;> decide
 ·show (if i = 1 then flatSeg 27 10 3 else flatSeg 35 2 3).ok
  split <;> exact ⟨by decide, by decide, by decide, by decide, by decide⟩
 ·exact ⟨by decide, by decide, by decide, by decide, by decide⟩
def startC3b : CpuS := { startC 3 with seg := fun i => if i = 1 then flatSeg 11 10 3 else flatSeg 19 2 3 }
theorem st3_cells : (((((((((((((((((flatC 3).cells.toArray.setIfInBounds 67 (.int .u32 2048)).setIfInBounds 68 (.int .u16 47)).setIfInBounds 69 (.int .u32 3072)).setIfInBounds 70 (.int .u16 511)).setIfInBounds 4 (.int .u32 36864)).setIfInBounds 8 (.int .u32 256)).setIfInBounds 9 (.int .u32 514)).setIfInBounds 71 (.int .u16 40)).setIfInBounds 72 (.bool false)).setIfInBounds 73 (.int .u32 2560)).setIfInBounds 74 (.int .u32 103)).setIfInBounds 75 (.int .i64 9)).setIfInBounds 76 (.bool true)).setIfInBounds 77 (.int .i64 0)).setIfInBounds 78 (.bool true)).setIfInBounds 79 (.bool false)) = startC3b.cells.toArray := by kernel_rfl
theorem st3b_cells : ((((((startC3b.cells.toArray.setIfInBounds 19 (.int .u16 27)).setIfInBounds 10 (.int .u16 35)).setIfInBounds 28 (.int .u16 35)).setIfInBounds 37 (.int .u16 35)).setIfInBounds 46 (.int .u16 35)).setIfInBounds 55 (.int .u16 35)) = (startC 3).cells.toArray := by kernel_rfl
set_option maxRecDepth 20000 in
set_option maxHeartbeats 8000000 in
theorem started3 (kind : Nat) (hk : kind < 4294967296) (w : World) : Calls Tryz.prog 10 #[.int .i64 3, .int .u32 (kind : Nat)] w fun e w' => ∃ eb vb bb pm, e = .returned (.pointer (some ⟨eb, 0, none⟩)) ∧ Hp w (fun _ => False) w' [oEn eb vb bb ⟨8, pm⟩ 0 (startS 3 kind)] := by
 have HK := Lib.hid hk
 have hz := fun w => zero83 w
 clear hk
 go_enter Tryz.func10, Tryz.ntmps10
 go_wp2_with fail
 refine (flat_any 3 w).mono ?_
 rintro e w1 ⟨he, hb1⟩
 rw [show (3 : Int).tmod 4 = 3 from rfl] at he
 subst he
 have HN := Lib.hid (heap_new w1 (.cells zero83C 36))
 have HT1 := Lib.hid (show Hp w (fun _ => False) (w1.alloc (.cells (flatC 3).cells.toArray 36)) [Ob.box w1.heap.size (.cells (flatC 3).cells.toArray 36)] from ((Hp.zero w).grow hb1).make _)
 clear hb1
 go_upto_region 2 with (first | (refine wpList_store_row rfl _ _ _ rfl w1.heap.size (flatC 3).cells.toArray rfl rfl _ _ HN.out info83 rfl (flat_one 3) ?_))
 change Code.wp _ _ _ _ ((w1.alloc (.cells zero83C 36)).setRow w1.heap.size (flatC 3).cells.toArray)
 rw [World.setRow_alloc_new]
 clear HN
 generalize w1.alloc (.cells (flatC 3).cells.toArray 36) = w2 at *
 generalize w1.heap.size = cb at *
 clear hz
 have hf := (c_facts HT1.out).2.1
 have hl := (c_facts HT1.out).2.2
 have c4 : w2.cell? ⟨cb, 4, none⟩ = some (.int .u32 0) := by rw [(c_facts HT1.out).1]; rfl
 have c8 : w2.cell? ⟨cb, 8, none⟩ = some (.int .u32 0) := by rw [(c_facts HT1.out).1]; rfl
 have c9 : w2.cell? ⟨cb, 9, none⟩ = some (.int .u32 2) := by rw [(c_facts HT1.out).1]; rfl
 have c67 : w2.cell? ⟨cb, 67, none⟩ = some (.int .u32 0) := by rw [(c_facts HT1.out).1]; rfl
 have c68 : w2.cell? ⟨cb, 68, none⟩ = some (.int .u16 0) := by rw [(c_facts HT1.out).1]; rfl
 have c69 : w2.cell? ⟨cb, 69, none⟩ = some (.int .u32 0) := by rw [(c_facts HT1.out).1]; rfl
 have c70 : w2.cell? ⟨cb, 70, none⟩ = some (.int .u16 0) := by rw [(c_facts HT1.out).1]; rfl
 have c71 : w2.cell? ⟨cb, 71, none⟩ = some (.int .u16 0) := by rw [(c_facts HT1.out).1]; rfl
 have c72 : w2.cell? ⟨cb, 72, none⟩ = some (.bool false) := by rw [(c_facts HT1.out).1]; rfl
 have c73 : w2.cell? ⟨cb, 73, none⟩ = some (.int .u32 0) := by rw [(c_facts HT1.out).1]; rfl
 have c74 : w2.cell? ⟨cb, 74, none⟩ = some (.int .u32 0) := by rw [(c_facts HT1.out).1]; rfl
 have c75 : w2.cell? ⟨cb, 75, none⟩ = some (.int .i64 0) := by rw [(c_facts HT1.out).1]; rfl
 have c76 : w2.cell? ⟨cb, 76, none⟩ = some (.bool false) := by rw [(c_facts HT1.out).1]; rfl
 have c77 : w2.cell? ⟨cb, 77, none⟩ = some (.int .i64 0) := by rw [(c_facts HT1.out).1]; rfl
 have c78 : w2.cell? ⟨cb, 78, none⟩ = some (.bool false) := by rw [(c_facts HT1.out).1]; rfl
 have c79 : w2.cell? ⟨cb, 79, none⟩ = some (.bool false) := by rw [(c_facts HT1.out).1]; rfl
 go_upto_region 8 with (fail)
 have HT1b := Lib.hid (show Hp w (fun _ => False) ((((((((((((((((w2.setCell ⟨cb, 67, none⟩ (.int .u32 2048)).setCell ⟨cb, 68, none⟩ (.int .u16 47)).setCell ⟨cb, 69, none⟩ (.int .u32 3072)).setCell ⟨cb, 70, none⟩ (.int .u16 511)).setCell ⟨cb, 4, none⟩ (.int .u32 36864)).setCell ⟨cb, 8, none⟩ (.int .u32 256)).setCell ⟨cb, 9, none⟩ (.int .u32 514)).setCell ⟨cb, 71, none⟩ (.int .u16 40)).setCell ⟨cb, 72, none⟩ (.bool false)).setCell ⟨cb, 73, none⟩ (.int .u32 2560)).setCell ⟨cb, 74, none⟩ (.int .u32 103)).setCell ⟨cb, 75, none⟩ (.int .i64 9)).setCell ⟨cb, 76, none⟩ (.bool true)).setCell ⟨cb, 77, none⟩ (.int .i64 0)).setCell ⟨cb, 78, none⟩ (.bool true)).setCell ⟨cb, 79, none⟩ (.bool false)) [Ob.box cb (.cells (((((((((((((((((flatC 3).cells.toArray.setIfInBounds 67 (.int .u32 2048)).setIfInBounds 68 (.int .u16 47)).setIfInBounds 69 (.int .u32 3072)).setIfInBounds 70 (.int .u16 511)).setIfInBounds 4 (.int .u32 36864)).setIfInBounds 8 (.int .u32 256)).setIfInBounds 9 (.int .u32 514)).setIfInBounds 71 (.int .u16 40)).setIfInBounds 72 (.bool false)).setIfInBounds 73 (.int .u32 2560)).setIfInBounds 74 (.int .u32 103)).setIfInBounds 75 (.int .i64 9)).setIfInBounds 76 (.bool true)).setIfInBounds 77 (.int .i64 0)).setIfInBounds 78 (.bool true)).setIfInBounds 79 (.bool false)) 36)] from ((((((((((((((((HT1.out.set 0 rfl 67 (.int .u32 2048)).set 0 rfl 68 (.int .u16 47)).set 0 rfl 69 (.int .u32 3072)).set 0 rfl 70 (.int .u16 511)).set 0 rfl 4 (.int .u32 36864)).set 0 rfl 8 (.int .u32 256)).set 0 rfl 9 (.int .u32 514)).set 0 rfl 71 (.int .u16 40)).set 0 rfl 72 (.bool false)).set 0 rfl 73 (.int .u32 2560)).set 0 rfl 74 (.int .u32 103)).set 0 rfl 75 (.int .i64 9)).set 0 rfl 76 (.bool true)).set 0 rfl 77 (.int .i64 0)).set 0 rfl 78 (.bool true)).set 0 rfl 79 (.bool false)))
 rw [st3_cells] at HT1b
 change Code.wp _ _ _ _ ((((((((((((((((w2.setCell ⟨cb, 67, none⟩ (.int .u32 2048)).setCell ⟨cb, 68, none⟩ (.int .u16 47)).setCell ⟨cb, 69, none⟩ (.int .u32 3072)).setCell ⟨cb, 70, none⟩ (.int .u16 511)).setCell ⟨cb, 4, none⟩ (.int .u32 36864)).setCell ⟨cb, 8, none⟩ (.int .u32 256)).setCell ⟨cb, 9, none⟩ (.int .u32 514)).setCell ⟨cb, 71, none⟩ (.int .u16 40)).setCell ⟨cb, 72, none⟩ (.bool false)).setCell ⟨cb, 73, none⟩ (.int .u32 2560)).setCell ⟨cb, 74, none⟩ (.int .u32 103)).setCell ⟨cb, 75, none⟩ (.int .i64 9)).setCell ⟨cb, 76, none⟩ (.bool true)).setCell ⟨cb, 77, none⟩ (.int .i64 0)).setCell ⟨cb, 78, none⟩ (.bool true)).setCell ⟨cb, 79, none⟩ (.bool false))
 clear HT1 hf hl c67 c68 c69 c70 c4 c8 c9 c71 c72 c73 c74 c75 c76 c77 c78 c79
 generalize ((((((((((((((((w2.setCell ⟨cb, 67, none⟩ (.int .u32 2048)).setCell ⟨cb, 68, none⟩ (.int .u16 47)).setCell ⟨cb, 69, none⟩ (.int .u32 3072)).setCell ⟨cb, 70, none⟩ (.int .u16 511)).setCell ⟨cb, 4, none⟩ (.int .u32 36864)).setCell ⟨cb, 8, none⟩ (.int .u32 256)).setCell ⟨cb, 9, none⟩ (.int .u32 514)).setCell ⟨cb, 71, none⟩ (.int .u16 40)).setCell ⟨cb, 72, none⟩ (.bool false)).setCell ⟨cb, 73, none⟩ (.int .u32 2560)).setCell ⟨cb, 74, none⟩ (.int .u32 103)).setCell ⟨cb, 75, none⟩ (.int .i64 9)).setCell ⟨cb, 76, none⟩ (.bool true)).setCell ⟨cb, 77, none⟩ (.int .i64 0)).setCell ⟨cb, 78, none⟩ (.bool true)).setCell ⟨cb, 79, none⟩ (.bool false)) = w3 at *
 have hf := (c_facts HT1b.out).2.1
 have hl := (c_facts HT1b.out).2.2
 have c10 : w3.cell? ⟨cb, 10, none⟩ = some (.int .u16 19) := by rw [(c_facts HT1b.out).1]; rfl
 have c28 : w3.cell? ⟨cb, 28, none⟩ = some (.int .u16 19) := by rw [(c_facts HT1b.out).1]; rfl
 have c37 : w3.cell? ⟨cb, 37, none⟩ = some (.int .u16 19) := by rw [(c_facts HT1b.out).1]; rfl
 have c46 : w3.cell? ⟨cb, 46, none⟩ = some (.int .u16 19) := by rw [(c_facts HT1b.out).1]; rfl
 have c55 : w3.cell? ⟨cb, 55, none⟩ = some (.int .u16 19) := by rw [(c_facts HT1b.out).1]; rfl
 have c19 : w3.cell? ⟨cb, 19, none⟩ = some (.int .u16 11) := by rw [(c_facts HT1b.out).1]; rfl
 go_wp2_with fail
 refine wp_loop_rounds 7 ?_
 rw [rounds_succ]
 go_wp2_with fail
 rw [rounds_succ]
 go_wp2_with fail
 rw [rounds_succ]
 go_wp2_with fail
 rw [rounds_succ]
 go_wp2_with fail
 rw [rounds_succ]
 go_wp2_with fail
 rw [rounds_succ]
 go_wp2_with fail
 rw [rounds_succ]
 go_upto_region 15 with (fail)
 have HT2 := Lib.hid (show Hp w (fun _ => False) ((((((w3.setCell ⟨cb, 19, none⟩ (.int .u16 27)).setCell ⟨cb, 10, none⟩ (.int .u16 35)).setCell ⟨cb, 28, none⟩ (.int .u16 35)).setCell ⟨cb, 37, none⟩ (.int .u16 35)).setCell ⟨cb, 46, none⟩ (.int .u16 35)).setCell ⟨cb, 55, none⟩ (.int .u16 35)) [Ob.box cb (.cells ((((((startC3b.cells.toArray.setIfInBounds 19 (.int .u16 27)).setIfInBounds 10 (.int .u16 35)).setIfInBounds 28 (.int .u16 35)).setIfInBounds 37 (.int .u16 35)).setIfInBounds 46 (.int .u16 35)).setIfInBounds 55 (.int .u16 35)) 36)] from ((((((HT1b.out.set 0 rfl 19 (.int .u16 27)).set 0 rfl 10 (.int .u16 35)).set 0 rfl 28 (.int .u16 35)).set 0 rfl 37 (.int .u16 35)).set 0 rfl 46 (.int .u16 35)).set 0 rfl 55 (.int .u16 35)))
 rw [st3b_cells] at HT2
 change Code.wp _ _ _ _ ((((((w3.setCell ⟨cb, 19, none⟩ (.int .u16 27)).setCell ⟨cb, 10, none⟩ (.int .u16 35)).setCell ⟨cb, 28, none⟩ (.int .u16 35)).setCell ⟨cb, 37, none⟩ (.int .u16 35)).setCell ⟨cb, 46, none⟩ (.int .u16 35)).setCell ⟨cb, 55, none⟩ (.int .u16 35))
 clear HT1b hf hl c19 c10 c28 c37 c46 c55
 generalize ((((((w3.setCell ⟨cb, 19, none⟩ (.int .u16 27)).setCell ⟨cb, 10, none⟩ (.int .u16 35)).setCell ⟨cb, 28, none⟩ (.int .u16 35)).setCell ⟨cb, 37, none⟩ (.int .u16 35)).setCell ⟨cb, 46, none⟩ (.int .u16 35)).setCell ⟨cb, 55, none⟩ (.int .u16 35)) = w4 at *
 have hlen : (Tryz.prog.info? 36).map (·.size) = some (startC 3).cells.length := by rw [(startC 3).cells_len]; exact info83
 have HC := Lib.hid (show (startC 3).ok from startC3_ok)
 have HX := Lib.hid hlen
 clear hlen
 have HH := Lib.hid HT2.out.drew
 refine wp_region_held_drew (S := fun w' => Hp w (fun _ => False) w' [Ob.box cb (.cells (startC 3).cells.toArray 36)]) (by kernel_rfl) HH.out (fun hHeld => ?_)
 refine wpAnyH_take (i := 0) (oi := _) (v := _) rfl (by kernel_rfl) (by kernel_rfl) (by kernel_rfl) (fun _ _ _ h => h) (yieldsIf_load_mid (by rfl) _ _ rfl _ _ rfl (startC 3).cells _ (fun _ h => c_range0 h) Tryz.underlying36 rfl HX.out) (by assumption) ?_
 simp only [Act.put, lz0, lz1, lz2, lz3, lz4, lz5]
 refine wpAnyH_take (i := 1) (oi := _) (v := ?_) rfl (by kernel_rfl) (by kernel_rfl) (by kernel_rfl) (fun _ _ _ h => h) (Or.inl ⟨by rfl, ?_⟩) (by assumption) ?_
 rotate_left
 ·(intro w hSw; (try dsimp only at hSw); go_simp <;> rfl)
 simp only [Act.put, lz0, lz1, lz2, lz3, lz4, lz5]
 refine wpAnyH_ready (rs := [2]) (by kernel_rfl) (by decide) (AllReadyH.cons rfl (fun K hK => ?_) AllReadyH.nil)
 go_simp
 refine (tables_x kind HK.out _).mono ?_
 rintro e w4 ⟨tv, rfl, ho, hb⟩
 obtain ⟨ta, tc, rfl, hW⟩ := words_st HK.out ho
 have HW := Lib.hid hW
 have HT4 := hHeld.grow hb
 clear hHeld ho hb hW
 refine hK.out _ _ HT4 (fun hHeld => ?_)
 clear hK K
 try simp only [Act.put, lz0, lz1, lz2, lz3, lz4, lz5]
 refine wpAnyH_ready (rs := [3]) (by kernel_rfl) (by decide) (AllReadyH.cons rfl (fun K hK => ?_) AllReadyH.nil)
 go_simp
 refine (both17 HC.out HW.out (by decide)).mono ?_
 rintro e w5 ⟨eb, vb, bb, pm, rb, rbb, rm, rfl, T5⟩
 have HT5 := Lib.hid (show Hp w (fun _ => False) w5 _ from hHeld.under T5)
 have hb5 := T5.below
 refine hK.out _ _ (hHeld.grow hb5) (fun hHeld => ?_)
 clear hK K hb5 T5
 try simp only [Act.put, lz0, lz1, lz2, lz3, lz4, lz5]
 refine wpAnyH_take (i := 4) (oi := _) (v := ?_) rfl (by kernel_rfl) (by kernel_rfl) (by kernel_rfl) (fun _ _ _ h => h) (Or.inl ⟨by rfl, ?_⟩) (by assumption) ?_
 rotate_left
 ·(intro w hSw; (try dsimp only at hSw); go_simp <;> rfl)
 simp only [Act.put, lz0, lz1, lz2, lz3, lz4, lz5]
 refine wpAnyH_take (i := 5) (oi := _) (v := ?_) rfl (by kernel_rfl) (by kernel_rfl) (by kernel_rfl) (fun _ _ _ h => h) (Or.inl ⟨by rfl, ?_⟩) (by assumption) ?_
 rotate_left
 ·(intro w hSw; (try dsimp only at hSw); go_simp <;> rfl)
 simp only [Act.put, lz0, lz1, lz2, lz3, lz4, lz5]
 refine wpAnyH_take (i := 6) (oi := _) (v := ?_) rfl (by kernel_rfl) (by kernel_rfl) (by kernel_rfl) (fun _ _ _ h => h) (Or.inl ⟨by rfl, ?_⟩) (by assumption) ?_
 rotate_left
 ·(intro w hSw; (try dsimp only at hSw); go_simp <;> rfl)
 simp only [Act.put, lz0, lz1, lz2, lz3, lz4, lz5]
 refine wpAnyH_take (i := 7) (oi := _) (v := ?_) rfl (by kernel_rfl) (by kernel_rfl) (by kernel_rfl) (fun _ _ _ h => h) (Or.inl ⟨by rfl, ?_⟩) (by assumption) ?_
 rotate_left
 ·(intro w hSw; (try dsimp only at hSw); go_simp <;> rfl)
 simp only [Act.put, lz0, lz1, lz2, lz3, lz4, lz5]
 refine wpAnyH_take (i := 8) (oi := _) (v := ?_) rfl (by kernel_rfl) (by kernel_rfl) (by kernel_rfl) (fun _ _ _ h => h) (Or.inl ⟨by rfl, ?_⟩) (by assumption) ?_
 rotate_left
 ·(intro w hSw; (try dsimp only at hSw); go_simp <;> rfl)
 simp only [Act.put, lz0, lz1, lz2, lz3, lz4, lz5]
 refine wpAnyH_done (by kernel_rfl) ?_ _
 clear hHeld HH HT2
 have k84 := cell_at (k := 84) (HT5.out.box 0 rfl)
 rw [env_84] at k84
 have kl := heap_lt (HT5.out.box 0 rfl)
 go_wp2_with fail
 refine (HT5.out.act 2 rfl (bus_33 (dk2_ok _) (dk2_c _))).mono ?_
 rintro e w6 ⟨rfl, T6⟩
 have HT6 := Lib.hid T6
 clear T6 HT5
 go_wp2_with fail
 go_returns
 exact ⟨eb, vb, bb, pm, rfl, HT6.out.started HC.out (Wide.both _ _ _ _ _ _) (start_R kind)⟩
end
end Go.Proofs.YtmpcafdgkbpneaaGreat

/- except's law Refuses, plainly. -/
namespace Go.Proofs.YtmpcafdgkbpneaaGreat
open Go.RowKit
set_option linter.unusedVariables false

def FaultS.eqb (f g : FaultS) : Bool := f.vec == g.vec && f.cd == g.cd && f.cr2 == g.cr2
theorem FaultS.eq_of {f g : FaultS} (h : f.eqb g = true) : f = g := by
 unfold FaultS.eqb at h
 simp only [Bool.and_eq_true, beq_iff_eq] at h
 cases f; cases g
 simp_all
def kindOf (how : Nat) : Nat := if how = 0 then 3584 else if how = 1 then 35840 else if how = 2 then 40448 else 36352
def ringOf (how : Nat) : Nat := if how = 3 then 3 else 0
def wantF (how : Nat) (soft : Bool) (v : Nat) : FaultS := ⟨if how = 0 then 11 else 13, 8 * (v : Int) + 2 + xOf soft, 0⟩
def chkR (how : Nat) (soft : Bool) : Bool := (List.range 64).all fun v => (triedE (enterE (v : Nat) (-1) soft) (startS (ringOf how) (kindOf how))).1.eqb (wantF how soft v)
theorem chk0f : chkR 0 false = true := by kernel_rfl
theorem chk0t : chkR 0 true = true := by kernel_rfl
theorem chk1f : chkR 1 false = true := by kernel_rfl
theorem chk1t : chkR 1 true = true := by kernel_rfl
theorem chk2f : chkR 2 false = true := by kernel_rfl
theorem chk2t : chkR 2 true = true := by kernel_rfl
theorem chk3t : chkR 3 true = true := by kernel_rfl
theorem all_range {n : Nat} {p : Nat → Bool} (h : (List.range n).all p = true) (v : Nat) (hv : v < n) : p v = true := List.all_eq_true.1 h v (List.mem_range.2 hv)
theorem refuse_one (how : Nat) (soft : Bool) (hh : how < 4) (hs : ¬ (how = 3 ∧ soft = false)) (v : Nat) (hv : v < 64) : (triedE (enterE (v : Nat) (-1) soft) (startS (ringOf how) (kindOf how))).1 = wantF how soft v := by
 have key : chkR how soft = true := by
  rcases (show how = 0 ∨ how = 1 ∨ how = 2 ∨ how = 3 by omega) with rfl | rfl | rfl | rfl <;> cases soft
  ·exact chk0f
  ·exact chk0t
  ·exact chk1f
  ·exact chk1t
  ·exact chk2f
  ·exact chk2t
  ·exact absurd ⟨rfl, rfl⟩ hs
  ·exact chk3t
 exact FaultS.eq_of (all_range key v hv)
end Go.Proofs.YtmpcafdgkbpneaaGreat

/- except's laws, plainly: words of a memory without pages; what a delivery does over the laws' tables. -/
namespace Go.Proofs.YtmpcafdgkbpneaaGreat
open Go.RowKit
set_option linter.unusedVariables false

theorem first4 (a : Nat) (h : a % 4096 ≤ 4092) : first a 4 = 4 := by unfold first; omega
theorem put_word (R : RS) (a v : Nat) (h : a % 4096 ≤ 4092) : putN R ⟨a, lin2 a 4, first a 4, 4 - first a 4⟩ v (first a 4 + (4 - first a 4)) = R.write a v 4 := by
 rw [first4 a h]; rfl
theorem get_word (R : RS) (a : Nat) (h : a % 4096 ≤ 4092) : getN R ⟨a, lin2 a 4, first a 4, 4 - first a 4⟩ (first a 4 + (4 - first a 4)) = R.read a 4 := by
 rw [first4 a h]; rfl
theorem get_half (R : RS) (a : Nat) (h : a % 4096 ≤ 4092) : getN R ⟨a, lin2 a 2, first a 2, 2 - first a 2⟩ (first a 2 + (2 - first a 2)) = R.read a 2 := by
 rw [show first a 2 = 2 by unfold first; omega]; rfl
theorem pg_flat {R : RS} {C : CpuS} (hp : C.paged = false) (lin size : Nat) (wr us : Bool) : pg R C lin size wr us = (.ok ⟨lin, lin2 lin size, first lin size, size - first lin size⟩, R) := by
 unfold pg
 rw [hp]
 rfl
theorem tell_ok (v : Nat) (R : RS) (s : Es) : toldE ((v, noF), R) s = (.ok v, ⟨s.C, R⟩) := by
 unfold toldE
 exact if_neg (show ¬ (0 : Int) ≤ -1 by decide)
section
variable {s : Es} {a : Nat}
theorem sys_word (hp : s.C.paged = false) (h : a % 4096 ≤ 4092) : sysE a 4 s = (.ok (s.R.read a 4), s) := by
 show toldE (ldOf (sy s.R s.C a ((4 : Nat) : Int) false)) s = _
 rw [sy_yes (.inr (.inr rfl)), pg_flat hp]
 show toldE ((getN s.R ⟨a, lin2 a 4, first a 4, 4 - first a 4⟩ (first a 4 + (4 - first a 4)), noF), s.R) s = _
 rw [get_word _ _ h, tell_ok]
theorem sys_half (hp : s.C.paged = false) (h : a % 4096 ≤ 4092) : sysE a 2 s = (.ok (s.R.read a 2), s) := by
 show toldE (ldOf (sy s.R s.C a ((2 : Nat) : Int) false)) s = _
 rw [sy_yes (.inr (.inl rfl)), pg_flat hp]
 show toldE ((getN s.R ⟨a, lin2 a 2, first a 2, 2 - first a 2⟩ (first a 2 + (2 - first a 2)), noF), s.R) s = _
 rw [get_half _ _ h, tell_ok]
theorem sg_flat {R : RS} {C : CpuS} (hp : C.paged = false) (hn : (C.seg 2).nul = false) (hb : (C.seg 2).base = 0) (wr : Bool) (hr : (C.seg 2).reach a 4 wr = true) (ha : a < 4294967296) :
    sg R C 2 a 4 wr = (.ok ⟨a, lin2 a 4, first a 4, 4 - first a 4⟩, R) := by
 unfold sg
 rw [if_pos ⟨.inr (.inr rfl), by decide, by decide⟩]
 show sg2 R C 2 a 4 wr = _
 unfold sg2
 rw [if_pos ⟨hn, hr⟩, hb, pg_flat hp, Nat.zero_add, Nat.mod_eq_of_lt ha]
 rfl
structure Stk (C : CpuS) : Prop where
 p : C.paged = false
 n : (C.seg 2).nul = false
 b : (C.seg 2).base = 0
 l : (C.seg 2).lim = 4294967295
 t : (C.seg 2).typ = 2
 s : (C.seg 2).sys = false
 e : (C.seg 2).pre = true
 g : (C.seg 2).big = true
theorem Stk.reach {C : CpuS} (h : Stk C) (wr : Bool) (ha : a ≤ 4294967292) : (C.seg 2).reach a 4 wr = true := by
 unfold SegR.reach
 rw [h.l, h.t, h.s, h.e, h.g]
 unfold Go.Proofs.YtmpcafdgkbpneaaGreat.reach
 rw [show lR 2 false = true from rfl, show lW 2 false = true from rfl, show lD 2 false = false from rfl]
 have h1 : decide ((a : Int) + ((4 : Nat) : Int) - 1 ≤ ((4294967295 : Nat) : Int)) = true := by rw [decide_eq_true_eq]; omega
 cases wr <;> simpa using h1
theorem store_word (h : Stk s.C) (ha : a ≤ 4294967292) (h4 : a % 4096 ≤ 4092) (v : Nat) : storeE 2 a 4 v s = (.ok 0, ⟨s.C, s.R.write a v 4⟩) := by
 show toldE ((0, (st s.R s.C 2 a 4 v).1), (st s.R s.C 2 a 4 v).2) s = _
 rw [st_ok (sg_flat h.p h.n h.b true (h.reach true ha) (by omega))]
 show toldE ((0, noF), putN s.R ⟨a, lin2 a 4, first a 4, 4 - first a 4⟩ v (first a 4 + (4 - first a 4))) s = _
 rw [put_word _ _ _ h4, tell_ok]
theorem push_word (h : Stk s.C) (he : (s.C.r 4 + 4294967292) % 4294967296 = a) (ha : a ≤ 4294967292) (h4 : a % 4096 ≤ 4092) (v : Nat) : pushE v s = (.ok (), ⟨s.C.setR 4 a, s.R.write a v 4⟩) := by
 unfold pushE
 show (storeE 2 ((s.C.r 4 + 4294967292) % 4294967296) 4 v).then _ s = _
 rw [he, Ex.then_ok (store_word h ha h4 v)]
 rfl
end
structure Tabs (R : RS) (kind : Nat) : Prop where
 plain : Plain R
 size : R.size = 65536
 gate : ∀ v, v < 64 → R.read (3072 + 8 * v) 4 = 548864 + 16 * v ∧ R.read (3076 + 8 * v) 4 = kind
 d8 : R.read 2056 4 = 65535 ∧ R.read 2060 4 = 13605376
 d16 : R.read 2064 4 = 65535 ∧ R.read 2068 4 = 13603328
 d24 : R.read 2072 4 = 65535 ∧ R.read 2076 4 = 13629952
 d32 : R.read 2080 4 = 65535 ∧ R.read 2084 4 = 13627904
 task : R.read 2564 4 = 40704 ∧ R.read 2568 4 = 16
theorem Tabs.write {R : RS} {kind : Nat} (h : Tabs R kind) (a v : Nat) (h0 : 4096 ≤ a) (h1 : a < 65536) (h4 : a % 4 = 0) : Tabs (R.write a v 4) kind := by
 have g := h.plain.write4 a v (by omega) h4
 have k : ∀ b, b < 4096 → b % 4 = 0 → (R.write a v 4).read b 4 = R.read b 4 := fun b hb hb4 => h.plain.read_other a b v (by omega) h4 (by omega) hb4 (by omega)
 refine ⟨g.1, g.2.1.trans h.size, fun v hv => ?_, ?_, ?_, ?_, ?_, ?_⟩
 ·rw [k _ (by omega) (by omega), k _ (by omega) (by omega)]; exact h.gate v hv
 ·rw [k _ (by decide) (by decide), k _ (by decide) (by decide)]; exact h.d8
 ·rw [k _ (by decide) (by decide), k _ (by decide) (by decide)]; exact h.d16
 ·rw [k _ (by decide) (by decide), k _ (by decide) (by decide)]; exact h.d24
 ·rw [k _ (by decide) (by decide), k _ (by decide) (by decide)]; exact h.d32
 ·rw [k _ (by decide) (by decide), k _ (by decide) (by decide)]; exact h.task
theorem read2 {R : RS} {a v : Nat} (h : R.read a 4 = v) (hv : v < 65536) (hR : R.ok) : R.read a 2 = v := by
 have h1 : R.read a 4 = R.read a 2 + R.get (at32 a 2) * 65536 + R.get (at32 a 3) * 16777216 := rfl
 omega
def chkT (kind : Nat) : Bool := ((List.range 64).all fun v => (startR kind).read (3072 + 8 * v) 4 == 548864 + 16 * v && (startR kind).read (3076 + 8 * v) 4 == kind) &&
 ((startR kind).read 2056 4 == 65535 && (startR kind).read 2060 4 == 13605376 && (startR kind).read 2064 4 == 65535 && (startR kind).read 2068 4 == 13603328 && (startR kind).read 2072 4 == 65535 && (startR kind).read 2076 4 == 13629952 && (startR kind).read 2080 4 == 65535 && (startR kind).read 2084 4 == 13627904 && (startR kind).read 2564 4 == 40704 && (startR kind).read 2568 4 == 16)
theorem wr_pages (R : RS) (a v : Nat) : (R.wr a v).pages = R.pages := by unfold RS.wr; split <;> rfl
theorem write_pages (R : RS) (a v : Nat) : ∀ k, (R.write a v k).pages = R.pages
 | 0 => rfl
 | k + 1 => (wr_pages _ _ _).trans (write_pages R a v k)
theorem writes_pages (R : RS) (at_ v : Nat → Nat) : ∀ k, (R.writes at_ v k).pages = R.pages
 | 0 => rfl
 | k + 1 => (write_pages _ _ _ _).trans (writes_pages R at_ v k)
theorem start_pages (kind : Nat) : (startR kind).pages = 16 := writes_pages (RS.new 16) tabA (tabV kind) 138
theorem Tabs.of {kind : Nat} (h : chkT kind = true) : Tabs (startR kind) kind := by
 unfold chkT at h
 simp only [Bool.and_eq_true, beq_iff_eq] at h
 obtain ⟨h0, h1⟩ := h
 have hs : (startR kind).size = 65536 := by
  unfold RS.size
  rw [start_pages]
 refine ⟨Plain.both 16 tabA (tabV kind) 138 (fun _ => 0), hs, fun v hv => ?_, ?_, ?_, ?_, ?_, ?_⟩
 ·have := List.all_eq_true.1 h0 v (List.mem_range.2 hv)
  simpa only [Bool.and_eq_true, beq_iff_eq] using this
 all_goals simp only [h1, and_self]
theorem tabs8E : Tabs (startR 36352) 36352 := Tabs.of (by kernel_rfl)
end Go.Proofs.YtmpcafdgkbpneaaGreat

/- except's laws, plainly: a delivery over the laws' tables. -/
namespace Go.Proofs.YtmpcafdgkbpneaaGreat
open Go.RowKit
set_option linter.unusedVariables false

structure Cst (C : CpuS) : Prop where
 p : C.paged = false
 gb : C.gb = 2048
 gl : C.gl = 47
 ib : C.ib = 3072
 il : C.il = 511
section
variable {s : Es} {kind v : Nat}
theorem desc_of (h : Cst s.C) (sel lo hi : Nat) (d : SegR) (hs : sel / 4 % 2 = 0) (hl : sel - sel % 8 + 7 ≤ 47) (h1 : s.R.read (2048 + (sel - sel % 8)) 4 = lo) (h2 : s.R.read (2048 + (sel - sel % 8) + 4) 4 = hi) (hd : SegR.of sel lo hi = d) (vec cd : Int) : descE sel vec cd s = (.ok d, s) := by
 have e1 : (s.C.gb + (sel - sel % 8)) % 4294967296 = 2048 + (sel - sel % 8) := by rw [h.gb]; omega
 have e2 : (2048 + (sel - sel % 8) + 4) % 4294967296 = 2048 + (sel - sel % 8) + 4 := by omega
 unfold descE
 show (needE (sel / 4 % 2 == 0 && decide (sel - sel % 8 + 7 ≤ s.C.gl)) vec cd).then _ s = _
 rw [Ex.then_ok (need_ok (by rw [h.gl, hs]; simp; omega) vec cd s), e1, e2, Ex.then_ok (sys_word h.p (by omega)), Ex.then_ok (sys_word h.p (by omega)), h1, h2, hd]
 rfl
def d8 : SegR := ⟨8, false, 0, 4294967295, 10, false, 0, true, true⟩
def d16 : SegR := ⟨16, false, 0, 4294967295, 2, false, 0, true, true⟩
theorem desc8 (T : Tabs s.R kind) (h : Cst s.C) (vec cd : Int) : descE 8 vec cd s = (.ok d8, s) := desc_of h 8 65535 13605376 d8 rfl (by decide) T.d8.1 T.d8.2 (by kernel_rfl) vec cd
theorem desc16 (T : Tabs s.R kind) (h : Cst s.C) (vec cd : Int) : descE 16 vec cd s = (.ok d16, s) := desc_of h 16 65535 13603328 d16 rfl (by decide) T.d16.1 T.d16.2 (by kernel_rfl) vec cd
theorem enter_flat (T : Tabs s.R kind) (h : Cst s.C) (hv : v < 64) (num : Int) (soft : Bool) {k : Nat} (hk : kind / 256 % 32 = k) (h14 : k = 14 ∨ k = 15) (hp : kind / 32768 % 2 = 1) (hs : soft = true → s.C.ring ≤ kind / 8192 % 4) (hlt : kind < 65536) :
    enterE (v : Nat) num soft s = enter3 num (xOf soft) k 8 (24576 + 16 * v) d8 s := by
 have e1 : (s.C.ib + 8 * v) % 4294967296 = 3072 + 8 * v := by rw [h.ib]; omega
 have e2 : (s.C.ib + (8 * v + 4)) % 4294967296 = 3076 + 8 * v := by rw [h.ib]; omega
 have e3 : (548864 + 16 * v) / 65536 = 8 := by omega
 have e4 : (548864 + 16 * v) % 65536 = 24576 + 16 * v := by omega
 have e5 : kind / 65536 = 0 := by omega
 unfold enterE
 rw [Ex.then_ok (need_ok (by simp; omega) 13 0 s), Int.toNat_natCast]
 unfold enter1
 show (needE (decide (8 * v + 7 ≤ s.C.il)) 13 (8 * (v : Int) + 2 + xOf soft)).then _ s = _
 rw [Ex.then_ok (need_ok (by rw [h.il]; simp; omega) _ _ s), e1, e2, Ex.then_ok (sys_word h.p (by omega)), Ex.then_ok (sys_word h.p (by omega)), (T.gate v hv).1, (T.gate v hv).2]
 unfold enter2
 show (needE ((kind / 256 % 32 == 14 || kind / 256 % 32 == 15) && (!soft || decide (s.C.ring ≤ kind / 8192 % 4))) 13 (8 * (v : Int) + 2 + xOf soft)).then _ s = _
 have c1 : ((kind / 256 % 32 == 14 || kind / 256 % 32 == 15) && (!soft || decide (s.C.ring ≤ kind / 8192 % 4))) = true := by
  rw [hk]
  have c2 : (k == 14 || k == 15) = true := by rcases h14 with rfl | rfl <;> rfl
  rw [c2]
  cases soft
  ·rfl
  ·simp [hs rfl]
 rw [Ex.then_ok (need_ok c1 _ _ s), Ex.then_ok (need_ok (by rw [hp]; rfl) _ _ s), e3, Ex.then_ok (need_ok (by rfl) _ _ s), Ex.then_ok (desc8 T h _ _), Ex.then_ok (need_ok (by
  show (d8.isCode && decide ((0 : Int) ≤ s.C.ring)) = true
  rw [show d8.isCode = true by kernel_rfl]
  simp) _ _ s), Ex.then_ok (need_ok (by rfl) _ _ s), e4, e5, Nat.zero_mul, Nat.add_zero, Ex.then_ok (need_ok (by
  show decide (24576 + 16 * v ≤ 4294967295) = true
  simp; omega) _ _ s), hk]
end
end Go.Proofs.YtmpcafdgkbpneaaGreat

/- except's law Pushes, plainly. -/
namespace Go.Proofs.YtmpcafdgkbpneaaGreat
open Go.RowKit
set_option linter.unusedVariables false

theorem setR_setR (C : CpuS) (i a b : Nat) : (C.setR i a).setR i b = C.setR i b := by
 unfold CpuS.setR
 congr 1
 funext j
 by_cases h : j = i <;> simp [h]
theorem Stk.setR {C : CpuS} (h : Stk C) (v : Nat) : Stk (C.setR 4 v) := ⟨h.p, h.n, h.b, h.l, h.t, h.s, h.e, h.g⟩
theorem push_at {s : Es} (h : Stk s.C) {a : Nat} (he : s.C.r 4 = a + 4) (ha : a ≤ 4294967288) (h4 : a % 4 = 0) (v : Nat) : pushE v s = (.ok (), ⟨s.C.setR 4 a, s.R.write a v 4⟩) :=
 push_word h (by rw [he]; omega) (by omega) (by omega) v
theorem d8_conf : d8.conf = false := by kernel_rfl
theorem d8_ring (r : Nat) : toRing d8 r = 0 := by
 unfold toRing
 rw [d8_conf]
 by_cases h : (d8.dpl : Int) < r
 ·rw [decide_eq_true h]; rfl
 ·rw [decide_eq_false h]
  have h : ¬ (0 : Int) < r := h
  simp only [Bool.not_false, Bool.true_and, Bool.false_eq_true, if_false]
  omega
end Go.Proofs.YtmpcafdgkbpneaaGreat

/- except's law Back, plainly. -/
namespace Go.Proofs.YtmpcafdgkbpneaaGreat
open Go.RowKit
set_option linter.unusedVariables false

section
variable {regs : Nat → Nat} {F P v k kind : Nat} {R : RS}
def R5 (R : RS) (a ss sp f c p : Nat) : RS := ((((R.write (a + 16) ss 4).write (a + 12) sp 4).write (a + 8) f 4).write (a + 4) c 4).write a p 4
theorem pushes_other {s : Es} (h : Stk s.C) {a : Nat} (he : s.C.r 4 = a + 20) (ha : a ≤ 4294967000) (h4 : a % 4 = 0) (old : CpuS) :
    pushesE old true (-1) s = (.ok (), ⟨s.C.setR 4 a, R5 s.R a (old.seg 2).sel (old.r 4) old.flags (old.seg 1).sel old.eip⟩) := by
 have e1 : ((pushE (old.seg 2).sel).then fun _ => pushE (old.r 4)) s = (.ok (), ⟨(s.C.setR 4 (a + 16)).setR 4 (a + 12), (s.R.write (a + 16) (old.seg 2).sel 4).write (a + 12) (old.r 4) 4⟩) := by
  rw [Ex.then_ok (push_at h (a := a + 16) he (by omega) (by omega) _), push_at (h.setR _) (a := a + 12) rfl (by omega) (by omega) _]
 unfold pushesE
 rw [show ∀ m : Ex Unit, whenE true m = m from fun _ => rfl, Ex.then_ok e1,
  Ex.then_ok (push_at ((h.setR _).setR _) (a := a + 8) rfl (by omega) (by omega) old.flags),
  Ex.then_ok (push_at (((h.setR _).setR _).setR _) (a := a + 4) rfl (by omega) (by omega) (old.seg 1).sel),
  Ex.then_ok (push_at ((((h.setR _).setR _).setR _).setR _) (a := a) rfl (by omega) (by omega) old.eip)]
 show (Except.ok (), Es.mk (((((s.C.setR 4 (a + 16)).setR 4 (a + 12)).setR 4 (a + 8)).setR 4 (a + 4)).setR 4 a) _) = _
 simp only [setR_setR]
 rfl
theorem inner_flat {s : Es} (T : Tabs s.R kind) (h : Cst s.C) (hb : s.C.tr.base = 2560) (hl : s.C.tr.lim = 103) (x : Int) : innerE 0 x s = (.ok (), ⟨(s.C.setSeg 2 d16).setR 4 40704, s.R⟩) := by
 have e1 : (s.C.tr.base + (8 * 0 + 4)) % 4294967296 = 2564 := by rw [hb]
 unfold innerE
 show (needE (decide (8 * 0 + 11 ≤ s.C.tr.lim)) 10 ((codeOfN s.C.tr.sel : Nat) + x)).then _ s = _
 rw [Ex.then_ok (need_ok (by rw [hl]; rfl) _ _ s), e1, Ex.then_ok (sys_word h.p (by decide)), show (2564 + 4) % 4294967296 = 2568 from rfl, Ex.then_ok (sys_half h.p (by decide)), T.task.1, read2 T.task.2 (by decide) T.plain.ok,
  Ex.then_ok (need_ok (by rfl) _ _ s), Ex.then_ok (desc16 T h _ _), Ex.then_ok (need_ok (by kernel_rfl) _ _ s), Ex.then_ok (need_ok (by rfl) _ _ s)]
 rfl
theorem enter3_gen {s : Es} {x : Int} {a : Nat} (hr : s.C.ring = 3) (hp : s.C.paged = false) (hi : innerE 0 x s = (.ok (), ⟨(s.C.setSeg 2 d16).setR 4 (a + 20), s.R⟩)) (ha : a ≤ 4294967000) (h4 : a % 4 = 0) (k place : Nat) :
    enter3 (-1) x k 8 place d8 s = (.ok (), ⟨((((s.C.setSeg 2 d16).setR 4 (a + 20)).setSeg 1 d8).setR 4 a).placed place k, R5 s.R a (s.C.seg 2).sel (s.C.r 4) s.C.flags (s.C.seg 1).sel s.C.eip⟩) := by
 unfold enter3
 show (whenE (!d8.conf && decide (d8.dpl < s.C.ring)) (innerE (toRing d8 s.C.ring) x)).then _ s = _
 rw [hr, d8_ring, d8_conf]
 rw [Ex.then_ok (show whenE (!false && decide (d8.dpl < ((3 : Nat) : Int))) (innerE 0 x) s = _ from hi)]
 rw [Ex.then_ok (show Ex.upd (fun s1 => ⟨s1.C.setSeg 1 { d8 with sel := 8 - 8 % 4 + 0 }, s1.R⟩) ⟨(s.C.setSeg 2 d16).setR 4 (a + 20), s.R⟩ = (.ok (), ⟨((s.C.setSeg 2 d16).setR 4 (a + 20)).setSeg 1 d8, s.R⟩) from rfl)]
 rw [show ((0 : Nat) != 3) = true from rfl, Ex.then_ok (pushes_other (s := ⟨((s.C.setSeg 2 d16).setR 4 (a + 20)).setSeg 1 d8, s.R⟩) ⟨hp, rfl, rfl, rfl, rfl, rfl, rfl, rfl⟩ (a := a) rfl ha h4 s.C)]
 generalize R5 _ _ _ _ _ _ _ = R'
 rfl
end
end Go.Proofs.YtmpcafdgkbpneaaGreat

/- except's law Refuses, plainly: what is left behind. -/
namespace Go.Proofs.YtmpcafdgkbpneaaGreat
open Go.RowKit
set_option linter.unusedVariables false

theorem tried_keeps (m : Ex Unit) (s : Es) (h : 0 ≤ (triedE m s).1.vec) : (triedE m s).2 = ⟨s.C, (triedE m s).2.R⟩ := by
 unfold triedE at h ⊢
 split
 ·rename_i e
  rw [e] at h
  exact absurd (show (0 : Int) ≤ -1 from h) (by decide)
 ·rfl
theorem refuse_two (how : Nat) (soft : Bool) (hh : how < 4) (hs : ¬ (how = 3 ∧ soft = false)) (v : Nat) (hv : v < 64) :
    ∃ R', triedE (enterE (v : Nat) (-1) soft) (startS (ringOf how) (kindOf how)) = (wantF how soft v, ⟨startC (ringOf how), R'⟩) := by
 have h1 := refuse_one how soft hh hs v hv
 have h2 := tried_keeps (enterE (v : Nat) (-1) soft) (startS (ringOf how) (kindOf how)) (by
  rw [h1]
  unfold wantF
  show (0 : Int) ≤ (if how = 0 then 11 else 13)
  split <;> decide)
 exact ⟨_, Prod.ext h1 h2⟩
theorem far_two (C : CpuS) (R : RS) (hil : C.il = 511) (soft : Bool) (v : Nat) (h0 : 64 ≤ v) (h1 : v < 256) : triedE (enterE (v : Nat) (-1) soft) ⟨C, R⟩ = (⟨13, 8 * (v : Int) + 2 + xOf soft, 0⟩, ⟨C, R⟩) := by
 have e : enterE (v : Nat) (-1) soft ⟨C, R⟩ = (.error ⟨13, 8 * (v : Int) + 2 + xOf soft, 0⟩, ⟨C, R⟩) := by
  unfold enterE
  rw [Ex.then_ok (need_ok (by simp; omega) 13 0 _), Int.toNat_natCast]
  unfold enter1
  show (needE (decide (8 * v + 7 ≤ C.il)) 13 (8 * (v : Int) + 2 + xOf soft)).then _ _ = _
  rw [Ex.then_no (need_no (by rw [hil]; simp; omega) _ _ _)]
 unfold triedE
 rw [e]
theorem let_gen {R : RS} {kd : Nat} (T : Tabs R kd) (v : Nat) (hv : v < 64) (hk : kd / 256 % 32 = 14) (hp : kd / 32768 % 2 = 1) (hlt : kd < 65536) : ∃ C' R', triedE (enterE (v : Nat) (-1) false) ⟨startC 3, R⟩ = (noF, ⟨C', R'⟩) ∧ C'.r 4 = 40684 ∧ (C'.seg 1).sel = 8 := by
 have hc : Cst (startC 3) := ⟨by kernel_rfl, rfl, rfl, rfl, rfl⟩
 have e := enter3_gen (s := ⟨startC 3, R⟩) (x := xOf false) (a := 40684) (by kernel_rfl) (by kernel_rfl) (inner_flat (s := ⟨startC 3, R⟩) T hc rfl rfl (xOf false)) (by decide) (by decide) 14 (24576 + 16 * v)
 have f := enter_flat (s := ⟨startC 3, R⟩) (v := v) (k := 14) T hc hv (-1) false hk (.inl rfl) hp (fun h => by cases h) hlt
 rw [e] at f
 generalize R5 _ _ _ _ _ _ _ = R' at f
 refine ⟨((((startC 3).setSeg 2 d16).setR 4 (40684 + 20)).setSeg 1 d8 |>.setR 4 40684).placed (24576 + 16 * v) 14, R', ?_, rfl, rfl⟩
 unfold triedE
 rw [f]
theorem let_one (v : Nat) (hv : v < 64) : ∃ C' R', triedE (enterE (v : Nat) (-1) false) (startS 3 36352) = (noF, ⟨C', R'⟩) ∧ C'.r 4 = 40684 ∧ (C'.seg 1).sel = 8 :=
 let_gen tabs8E v hv (by decide) (by decide) (by decide)
end Go.Proofs.YtmpcafdgkbpneaaGreat

