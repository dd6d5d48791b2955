/- Steps of a proof: ExLaw, ExStart3, ExPl, ExEnt, ExPu, ExBk, ExBx, VmIn, together. -/
import Derived.Test.YtmpcafdgkbpneaaGreatS40
import Derived.Test.YtmpcafdgkbpneaaGreatS39
import Derived.Test.YtmpcafdgkbpneaaGreatS8
import Derived.Test.YtmpcafdgkbpneaaGreatS32
import Derived.Test.YtmpcafdgkbpneaaGreatS0
/- except's laws: what their walks lean on. -/
open List renaming getElem_toArray → lz0, getElem_cons_zero → lz1, getElem_cons_succ → lz2, setIfInBounds_toArray → lz3, set_cons_zero → lz4, set_cons_succ → lz5
namespace Go.Proofs.YtmpcafdgkbpneaaGreat
open Go.RowKit Go.MapKept
set_option linter.unusedVariables false

section
variable {w0 w w' w1 w2 : World} {A0 : Nat → Prop} {os os' : List Ob} {o : Ob}
theorem Hp.join (T : Hp w0 A0 w1 os) (U : Hp w1 (fun _ => False) w2 os') : Hp w0 A0 w2 (os' ++ os) := by
 have hb := U.below
 obtain ⟨A, a, M⟩ := U
 have h := T.new hb (o := Ob.all os') (A := A) a fun k hk => (M.2 k hk).elim False.elim id
 exact (Hp.rot h).open_
end
def vecN (v : Int) : Int := if v < 0 then -(v + 1) else v
theorem vecN_pos (v : Int) : 0 ≤ vecN v := by unfold vecN; split <;> omega
theorem vecN_mod (v : Int) (k : Nat) (hk : 0 < k) : ∃ n : Nat, n < k ∧ vecN v % (k : Int) = (n : Int) := by
 have h1 := Int.emod_nonneg (vecN v) (show (k : Int) ≠ 0 by omega)
 have h2 := Int.emod_lt_of_pos (vecN v) (show (0 : Int) < k by omega)
 exact ⟨(vecN v % (k : Int)).toNat, by omega, by omega⟩
theorem env_fl (C : CpuS) (vb bb f : Nat) : (envCells C vb bb).setIfInBounds 9 (.int .u32 (f : Nat)) = envCells { C with flags := f } vb bb := by kernel_rfl
theorem env_ip (C : CpuS) (vb bb f : Nat) : (envCells C vb bb).setIfInBounds 8 (.int .u32 (f : Nat)) = envCells { C with eip := f } vb bb := by kernel_rfl
def CpuS.setAll (C : CpuS) (g : Nat → Nat) : CpuS := { C with r := fun j => if j < 8 then g j else C.r j }
theorem env_r (C : CpuS) (vb bb v : Nat) : (envCells C vb bb).setIfInBounds 4 (.int .u32 (v : Nat)) = envCells (C.setR 4 v) vb bb := by kernel_rfl
def setsR (w : World) (b : Nat) (g : Nat → Nat) : World := ((((((((w.setCell ⟨b, 0, none⟩ (.int .u32 (g 0 : Nat))).setCell ⟨b, 1, none⟩ (.int .u32 (g 1 : Nat))).setCell ⟨b, 2, none⟩ (.int .u32 (g 2 : Nat))).setCell ⟨b, 3, none⟩ (.int .u32 (g 3 : Nat))).setCell ⟨b, 4, none⟩ (.int .u32 (g 4 : Nat))).setCell ⟨b, 5, none⟩ (.int .u32 (g 5 : Nat))).setCell ⟨b, 6, none⟩ (.int .u32 (g 6 : Nat))).setCell ⟨b, 7, none⟩ (.int .u32 (g 7 : Nat)))
theorem env_all (C : CpuS) (vb bb : Nat) (g : Nat → Nat) : ((((((((envCells C vb bb).setIfInBounds 0 (.int .u32 (g 0 : Nat))).setIfInBounds 1 (.int .u32 (g 1 : Nat))).setIfInBounds 2 (.int .u32 (g 2 : Nat))).setIfInBounds 3 (.int .u32 (g 3 : Nat))).setIfInBounds 4 (.int .u32 (g 4 : Nat))).setIfInBounds 5 (.int .u32 (g 5 : Nat))).setIfInBounds 6 (.int .u32 (g 6 : Nat))).setIfInBounds 7 (.int .u32 (g 7 : Nat)) = envCells (C.setAll g) vb bb := by kernel_rfl
theorem Hp.setAll {w0 w : World} {A0 : Nat → Prop} {os : List Ob} {eb vb bb n : Nat} {pl : Pl} {s : Es} (T : Hp w0 A0 w os) (i : Nat) (hi : os[i]? = some (oEn eb vb bb pl n s)) (g : Nat → Nat) (hg : ∀ i, g i < 4294967296) : Hp w0 A0 (setsR w eb g) (os.set i (oEn eb vb bb pl n ⟨s.C.setAll g, s.R⟩)) := by
 obtain ⟨A, H, E, e⟩ := T.get i hi
 have h := E.cok
 refine T.setCpu i hi ?_ ⟨fun j => ?_, h.eip, h.flags, h.seg, h.cr0, h.cr2, h.cr3, h.gb, h.gl, h.ib, h.il, h.tr⟩ ((((((((Keeps.refl (· = eb) w).setOne 0 _).setOne 1 _).setOne 2 _).setOne 3 _).setOne 4 _).setOne 5 _).setOne 6 _ |>.setOne 7 _)
 ·unfold setsR
  rw [← env_all]
  simp only [heap_set_map, E.box, Option.map_some]
  rfl
 ·show (if j < 8 then g j else s.C.r j) < _
  split
  ·exact hg j
  ·exact h.r j
end Go.Proofs.YtmpcafdgkbpneaaGreat

/- except's laws: what they start from, in ring 3. -/
namespace Go.Proofs.YtmpcafdgkbpneaaGreat
open Go.RowKit Go.MapKept
set_option linter.unusedVariables false
set_option linter.unusedSimpArgs false
attribute [local go_sem ↓] Go.wp_at_zero Go.wp_at_succ

section
theorem startC3_ok : (startC 3).ok := by
 refine ⟨fun i => ?_, by decide, by decide, fun i => ?_, by decide, by decide, by decide, by decide, by decide, by decide, by decide, ?_⟩
 ·show (if i = 4 then 36864 else 0) < _
  split <;> decide
 ·show (if i = 1 then flatSeg 27 10 3 else flatSeg 35 2 3).ok
  split <;> exact ⟨by decide, by decide, by decide, by decide, by decide⟩
 ·exact ⟨by decide, by decide, by decide, by decide, by decide⟩
def startC3b : CpuS := { startC 3 with seg := fun i => if i = 1 then flatSeg 11 10 3 else flatSeg 19 2 3 }
theorem st3_cells : (((((((((((((((((flatC 3).cells.toArray.setIfInBounds 67 (.int .u32 2048)).setIfInBounds 68 (.int .u16 47)).setIfInBounds 69 (.int .u32 3072)).setIfInBounds 70 (.int .u16 511)).setIfInBounds 4 (.int .u32 36864)).setIfInBounds 8 (.int .u32 256)).setIfInBounds 9 (.int .u32 514)).setIfInBounds 71 (.int .u16 40)).setIfInBounds 72 (.bool false)).setIfInBounds 73 (.int .u32 2560)).setIfInBounds 74 (.int .u32 103)).setIfInBounds 75 (.int .i64 9)).setIfInBounds 76 (.bool true)).setIfInBounds 77 (.int .i64 0)).setIfInBounds 78 (.bool true)).setIfInBounds 79 (.bool false)) = startC3b.cells.toArray := by kernel_rfl
theorem st3b_cells : ((((((startC3b.cells.toArray.setIfInBounds 19 (.int .u16 27)).setIfInBounds 10 (.int .u16 35)).setIfInBounds 28 (.int .u16 35)).setIfInBounds 37 (.int .u16 35)).setIfInBounds 46 (.int .u16 35)).setIfInBounds 55 (.int .u16 35)) = (startC 3).cells.toArray := by kernel_rfl
set_option maxRecDepth 20000 in
set_option maxHeartbeats 8000000 in
theorem started3 (kind : Nat) (hk : kind < 4294967296) (w : World) : Calls Tryz.prog 10 #[.int .i64 3, .int .u32 (kind : Nat)] w fun e w' => ∃ eb vb bb pm, e = .returned (.pointer (some ⟨eb, 0, none⟩)) ∧ Hp w (fun _ => False) w' [oEn eb vb bb ⟨8, pm⟩ 0 (startS 3 kind)] := by
 have HK := Lib.hid hk
 have hz := fun w => zero83 w
 clear hk
 go_enter Tryz.func10, Tryz.ntmps10
 go_wp2_with fail
 refine (flat_any 3 w).mono ?_
 rintro e w1 ⟨he, hb1⟩
 rw [show (3 : Int).tmod 4 = 3 from rfl] at he
 subst he
 have HN := Lib.hid (heap_new w1 (.cells zero83C 36))
 have HT1 := Lib.hid (show Hp w (fun _ => False) (w1.alloc (.cells (flatC 3).cells.toArray 36)) [Ob.box w1.heap.size (.cells (flatC 3).cells.toArray 36)] from ((Hp.zero w).grow hb1).make _)
 clear hb1
 go_upto_region 2 with (first | (refine wpList_store_row rfl _ _ _ rfl w1.heap.size (flatC 3).cells.toArray rfl rfl _ _ HN.out info83 rfl (flat_one 3) ?_))
 change Code.wp _ _ _ _ ((w1.alloc (.cells zero83C 36)).setRow w1.heap.size (flatC 3).cells.toArray)
 rw [World.setRow_alloc_new]
 clear HN
 generalize w1.alloc (.cells (flatC 3).cells.toArray 36) = w2 at *
 generalize w1.heap.size = cb at *
 clear hz
 have hf := (c_facts HT1.out).2.1
 have hl := (c_facts HT1.out).2.2
 have c4 : w2.cell? ⟨cb, 4, none⟩ = some (.int .u32 0) := by rw [(c_facts HT1.out).1]; rfl
 have c8 : w2.cell? ⟨cb, 8, none⟩ = some (.int .u32 0) := by rw [(c_facts HT1.out).1]; rfl
 have c9 : w2.cell? ⟨cb, 9, none⟩ = some (.int .u32 2) := by rw [(c_facts HT1.out).1]; rfl
 have c67 : w2.cell? ⟨cb, 67, none⟩ = some (.int .u32 0) := by rw [(c_facts HT1.out).1]; rfl
 have c68 : w2.cell? ⟨cb, 68, none⟩ = some (.int .u16 0) := by rw [(c_facts HT1.out).1]; rfl
 have c69 : w2.cell? ⟨cb, 69, none⟩ = some (.int .u32 0) := by rw [(c_facts HT1.out).1]; rfl
 have c70 : w2.cell? ⟨cb, 70, none⟩ = some (.int .u16 0) := by rw [(c_facts HT1.out).1]; rfl
 have c71 : w2.cell? ⟨cb, 71, none⟩ = some (.int .u16 0) := by rw [(c_facts HT1.out).1]; rfl
 have c72 : w2.cell? ⟨cb, 72, none⟩ = some (.bool false) := by rw [(c_facts HT1.out).1]; rfl
 have c73 : w2.cell? ⟨cb, 73, none⟩ = some (.int .u32 0) := by rw [(c_facts HT1.out).1]; rfl
 have c74 : w2.cell? ⟨cb, 74, none⟩ = some (.int .u32 0) := by rw [(c_facts HT1.out).1]; rfl
 have c75 : w2.cell? ⟨cb, 75, none⟩ = some (.int .i64 0) := by rw [(c_facts HT1.out).1]; rfl
 have c76 : w2.cell? ⟨cb, 76, none⟩ = some (.bool false) := by rw [(c_facts HT1.out).1]; rfl
 have c77 : w2.cell? ⟨cb, 77, none⟩ = some (.int .i64 0) := by rw [(c_facts HT1.out).1]; rfl
 have c78 : w2.cell? ⟨cb, 78, none⟩ = some (.bool false) := by rw [(c_facts HT1.out).1]; rfl
 have c79 : w2.cell? ⟨cb, 79, none⟩ = some (.bool false) := by rw [(c_facts HT1.out).1]; rfl
 go_upto_region 8 with (fail)
 have HT1b := Lib.hid (show Hp w (fun _ => False) ((((((((((((((((w2.setCell ⟨cb, 67, none⟩ (.int .u32 2048)).setCell ⟨cb, 68, none⟩ (.int .u16 47)).setCell ⟨cb, 69, none⟩ (.int .u32 3072)).setCell ⟨cb, 70, none⟩ (.int .u16 511)).setCell ⟨cb, 4, none⟩ (.int .u32 36864)).setCell ⟨cb, 8, none⟩ (.int .u32 256)).setCell ⟨cb, 9, none⟩ (.int .u32 514)).setCell ⟨cb, 71, none⟩ (.int .u16 40)).setCell ⟨cb, 72, none⟩ (.bool false)).setCell ⟨cb, 73, none⟩ (.int .u32 2560)).setCell ⟨cb, 74, none⟩ (.int .u32 103)).setCell ⟨cb, 75, none⟩ (.int .i64 9)).setCell ⟨cb, 76, none⟩ (.bool true)).setCell ⟨cb, 77, none⟩ (.int .i64 0)).setCell ⟨cb, 78, none⟩ (.bool true)).setCell ⟨cb, 79, none⟩ (.bool false)) [Ob.box cb (.cells (((((((((((((((((flatC 3).cells.toArray.setIfInBounds 67 (.int .u32 2048)).setIfInBounds 68 (.int .u16 47)).setIfInBounds 69 (.int .u32 3072)).setIfInBounds 70 (.int .u16 511)).setIfInBounds 4 (.int .u32 36864)).setIfInBounds 8 (.int .u32 256)).setIfInBounds 9 (.int .u32 514)).setIfInBounds 71 (.int .u16 40)).setIfInBounds 72 (.bool false)).setIfInBounds 73 (.int .u32 2560)).setIfInBounds 74 (.int .u32 103)).setIfInBounds 75 (.int .i64 9)).setIfInBounds 76 (.bool true)).setIfInBounds 77 (.int .i64 0)).setIfInBounds 78 (.bool true)).setIfInBounds 79 (.bool false)) 36)] from ((((((((((((((((HT1.out.set 0 rfl 67 (.int .u32 2048)).set 0 rfl 68 (.int .u16 47)).set 0 rfl 69 (.int .u32 3072)).set 0 rfl 70 (.int .u16 511)).set 0 rfl 4 (.int .u32 36864)).set 0 rfl 8 (.int .u32 256)).set 0 rfl 9 (.int .u32 514)).set 0 rfl 71 (.int .u16 40)).set 0 rfl 72 (.bool false)).set 0 rfl 73 (.int .u32 2560)).set 0 rfl 74 (.int .u32 103)).set 0 rfl 75 (.int .i64 9)).set 0 rfl 76 (.bool true)).set 0 rfl 77 (.int .i64 0)).set 0 rfl 78 (.bool true)).set 0 rfl 79 (.bool false)))
 rw [st3_cells] at HT1b
 change Code.wp _ _ _ _ ((((((((((((((((w2.setCell ⟨cb, 67, none⟩ (.int .u32 2048)).setCell ⟨cb, 68, none⟩ (.int .u16 47)).setCell ⟨cb, 69, none⟩ (.int .u32 3072)).setCell ⟨cb, 70, none⟩ (.int .u16 511)).setCell ⟨cb, 4, none⟩ (.int .u32 36864)).setCell ⟨cb, 8, none⟩ (.int .u32 256)).setCell ⟨cb, 9, none⟩ (.int .u32 514)).setCell ⟨cb, 71, none⟩ (.int .u16 40)).setCell ⟨cb, 72, none⟩ (.bool false)).setCell ⟨cb, 73, none⟩ (.int .u32 2560)).setCell ⟨cb, 74, none⟩ (.int .u32 103)).setCell ⟨cb, 75, none⟩ (.int .i64 9)).setCell ⟨cb, 76, none⟩ (.bool true)).setCell ⟨cb, 77, none⟩ (.int .i64 0)).setCell ⟨cb, 78, none⟩ (.bool true)).setCell ⟨cb, 79, none⟩ (.bool false))
 clear HT1 hf hl c67 c68 c69 c70 c4 c8 c9 c71 c72 c73 c74 c75 c76 c77 c78 c79
 generalize ((((((((((((((((w2.setCell ⟨cb, 67, none⟩ (.int .u32 2048)).setCell ⟨cb, 68, none⟩ (.int .u16 47)).setCell ⟨cb, 69, none⟩ (.int .u32 3072)).setCell ⟨cb, 70, none⟩ (.int .u16 511)).setCell ⟨cb, 4, none⟩ (.int .u32 36864)).setCell ⟨cb, 8, none⟩ (.int .u32 256)).setCell ⟨cb, 9, none⟩ (.int .u32 514)).setCell ⟨cb, 71, none⟩ (.int .u16 40)).setCell ⟨cb, 72, none⟩ (.bool false)).setCell ⟨cb, 73, none⟩ (.int .u32 2560)).setCell ⟨cb, 74, none⟩ (.int .u32 103)).setCell ⟨cb, 75, none⟩ (.int .i64 9)).setCell ⟨cb, 76, none⟩ (.bool true)).setCell ⟨cb, 77, none⟩ (.int .i64 0)).setCell ⟨cb, 78, none⟩ (.bool true)).setCell ⟨cb, 79, none⟩ (.bool false)) = w3 at *
 have hf := (c_facts HT1b.out).2.1
 have hl := (c_facts HT1b.out).2.2
 have c10 : w3.cell? ⟨cb, 10, none⟩ = some (.int .u16 19) := by rw [(c_facts HT1b.out).1]; rfl
 have c28 : w3.cell? ⟨cb, 28, none⟩ = some (.int .u16 19) := by rw [(c_facts HT1b.out).1]; rfl
 have c37 : w3.cell? ⟨cb, 37, none⟩ = some (.int .u16 19) := by rw [(c_facts HT1b.out).1]; rfl
 have c46 : w3.cell? ⟨cb, 46, none⟩ = some (.int .u16 19) := by rw [(c_facts HT1b.out).1]; rfl
 have c55 : w3.cell? ⟨cb, 55, none⟩ = some (.int .u16 19) := by rw [(c_facts HT1b.out).1]; rfl
 have c19 : w3.cell? ⟨cb, 19, none⟩ = some (.int .u16 11) := by rw [(c_facts HT1b.out).1]; rfl
 go_wp2_with fail
 refine wp_loop_rounds 7 ?_
 rw [rounds_succ]
 go_wp2_with fail
 rw [rounds_succ]
 go_wp2_with fail
 rw [rounds_succ]
 go_wp2_with fail
 rw [rounds_succ]
 go_wp2_with fail
 rw [rounds_succ]
 go_wp2_with fail
 rw [rounds_succ]
 go_wp2_with fail
 rw [rounds_succ]
 go_upto_region 15 with (fail)
 have HT2 := Lib.hid (show Hp w (fun _ => False) ((((((w3.setCell ⟨cb, 19, none⟩ (.int .u16 27)).setCell ⟨cb, 10, none⟩ (.int .u16 35)).setCell ⟨cb, 28, none⟩ (.int .u16 35)).setCell ⟨cb, 37, none⟩ (.int .u16 35)).setCell ⟨cb, 46, none⟩ (.int .u16 35)).setCell ⟨cb, 55, none⟩ (.int .u16 35)) [Ob.box cb (.cells ((((((startC3b.cells.toArray.setIfInBounds 19 (.int .u16 27)).setIfInBounds 10 (.int .u16 35)).setIfInBounds 28 (.int .u16 35)).setIfInBounds 37 (.int .u16 35)).setIfInBounds 46 (.int .u16 35)).setIfInBounds 55 (.int .u16 35)) 36)] from ((((((HT1b.out.set 0 rfl 19 (.int .u16 27)).set 0 rfl 10 (.int .u16 35)).set 0 rfl 28 (.int .u16 35)).set 0 rfl 37 (.int .u16 35)).set 0 rfl 46 (.int .u16 35)).set 0 rfl 55 (.int .u16 35)))
 rw [st3b_cells] at HT2
 change Code.wp _ _ _ _ ((((((w3.setCell ⟨cb, 19, none⟩ (.int .u16 27)).setCell ⟨cb, 10, none⟩ (.int .u16 35)).setCell ⟨cb, 28, none⟩ (.int .u16 35)).setCell ⟨cb, 37, none⟩ (.int .u16 35)).setCell ⟨cb, 46, none⟩ (.int .u16 35)).setCell ⟨cb, 55, none⟩ (.int .u16 35))
 clear HT1b hf hl c19 c10 c28 c37 c46 c55
 generalize ((((((w3.setCell ⟨cb, 19, none⟩ (.int .u16 27)).setCell ⟨cb, 10, none⟩ (.int .u16 35)).setCell ⟨cb, 28, none⟩ (.int .u16 35)).setCell ⟨cb, 37, none⟩ (.int .u16 35)).setCell ⟨cb, 46, none⟩ (.int .u16 35)).setCell ⟨cb, 55, none⟩ (.int .u16 35)) = w4 at *
 have hlen : (Tryz.prog.info? 36).map (·.size) = some (startC 3).cells.length := by rw [(startC 3).cells_len]; exact info83
 have HC := Lib.hid (show (startC 3).ok from startC3_ok)
 have HX := Lib.hid hlen
 clear hlen
 have HH := Lib.hid HT2.out.drew
 refine wp_region_held_drew (S := fun w' => Hp w (fun _ => False) w' [Ob.box cb (.cells (startC 3).cells.toArray 36)]) (by kernel_rfl) HH.out (fun hHeld => ?_)
 refine wpAnyH_take (i := 0) (oi := _) (v := _) rfl (by kernel_rfl) (by kernel_rfl) (by kernel_rfl) (fun _ _ _ h => h) (yieldsIf_load_mid (by rfl) _ _ rfl _ _ rfl (startC 3).cells _ (fun _ h => c_range0 h) Tryz.underlying36 rfl HX.out) (by assumption) ?_
 simp only [Act.put, lz0, lz1, lz2, lz3, lz4, lz5]
 refine wpAnyH_take (i := 1) (oi := _) (v := ?_) rfl (by kernel_rfl) (by kernel_rfl) (by kernel_rfl) (fun _ _ _ h => h) (Or.inl ⟨by rfl, ?_⟩) (by assumption) ?_
 rotate_left
 ·(intro w hSw; (try dsimp only at hSw); go_simp <;> rfl)
 simp only [Act.put, lz0, lz1, lz2, lz3, lz4, lz5]
 refine wpAnyH_ready (rs := [2]) (by kernel_rfl) (by decide) (AllReadyH.cons rfl (fun K hK => ?_) AllReadyH.nil)
 go_simp
 refine (tables_x kind HK.out _).mono ?_
 rintro e w4 ⟨tv, rfl, ho, hb⟩
 obtain ⟨ta, tc, rfl, hW⟩ := words_st HK.out ho
 have HW := Lib.hid hW
 have HT4 := hHeld.grow hb
 clear hHeld ho hb hW
 refine hK.out _ _ HT4 (fun hHeld => ?_)
 clear hK K
 try simp only [Act.put, lz0, lz1, lz2, lz3, lz4, lz5]
 refine wpAnyH_ready (rs := [3]) (by kernel_rfl) (by decide) (AllReadyH.cons rfl (fun K hK => ?_) AllReadyH.nil)
 go_simp
 refine (both17 HC.out HW.out (by decide)).mono ?_
 rintro e w5 ⟨eb, vb, bb, pm, rb, rbb, rm, rfl, T5⟩
 have HT5 := Lib.hid (show Hp w (fun _ => False) w5 _ from hHeld.under T5)
 have hb5 := T5.below
 refine hK.out _ _ (hHeld.grow hb5) (fun hHeld => ?_)
 clear hK K hb5 T5
 try simp only [Act.put, lz0, lz1, lz2, lz3, lz4, lz5]
 refine wpAnyH_take (i := 4) (oi := _) (v := ?_) rfl (by kernel_rfl) (by kernel_rfl) (by kernel_rfl) (fun _ _ _ h => h) (Or.inl ⟨by rfl, ?_⟩) (by assumption) ?_
 rotate_left
 ·(intro w hSw; (try dsimp only at hSw); go_simp <;> rfl)
 simp only [Act.put, lz0, lz1, lz2, lz3, lz4, lz5]
 refine wpAnyH_take (i := 5) (oi := _) (v := ?_) rfl (by kernel_rfl) (by kernel_rfl) (by kernel_rfl) (fun _ _ _ h => h) (Or.inl ⟨by rfl, ?_⟩) (by assumption) ?_
 rotate_left
 ·(intro w hSw; (try dsimp only at hSw); go_simp <;> rfl)
 simp only [Act.put, lz0, lz1, lz2, lz3, lz4, lz5]
 refine wpAnyH_take (i := 6) (oi := _) (v := ?_) rfl (by kernel_rfl) (by kernel_rfl) (by kernel_rfl) (fun _ _ _ h => h) (Or.inl ⟨by rfl, ?_⟩) (by assumption) ?_
 rotate_left
 ·(intro w hSw; (try dsimp only at hSw); go_simp <;> rfl)
 simp only [Act.put, lz0, lz1, lz2, lz3, lz4, lz5]
 refine wpAnyH_take (i := 7) (oi := _) (v := ?_) rfl (by kernel_rfl) (by kernel_rfl) (by kernel_rfl) (fun _ _ _ h => h) (Or.inl ⟨by rfl, ?_⟩) (by assumption) ?_
 rotate_left
 ·(intro w hSw; (try dsimp only at hSw); go_simp <;> rfl)
 simp only [Act.put, lz0, lz1, lz2, lz3, lz4, lz5]
 refine wpAnyH_take (i := 8) (oi := _) (v := ?_) rfl (by kernel_rfl) (by kernel_rfl) (by kernel_rfl) (fun _ _ _ h => h) (Or.inl ⟨by rfl, ?_⟩) (by assumption) ?_
 rotate_left
 ·(intro w hSw; (try dsimp only at hSw); go_simp <;> rfl)
 simp only [Act.put, lz0, lz1, lz2, lz3, lz4, lz5]
 refine wpAnyH_done (by kernel_rfl) ?_ _
 clear hHeld HH HT2
 have k84 := cell_at (k := 84) (HT5.out.box 0 rfl)
 rw [env_84] at k84
 have kl := heap_lt (HT5.out.box 0 rfl)
 go_wp2_with fail
 refine (HT5.out.act 2 rfl (bus_33 (dk2_ok _) (dk2_c _))).mono ?_
 rintro e w6 ⟨rfl, T6⟩
 have HT6 := Lib.hid T6
 clear T6 HT5
 go_wp2_with fail
 go_returns
 exact ⟨eb, vb, bb, pm, rfl, HT6.out.started HC.out (Wide.both _ _ _ _ _ _) (start_R kind)⟩
end
end Go.Proofs.YtmpcafdgkbpneaaGreat

/- except's laws, plainly: words of a memory without pages; what a delivery does over the laws' tables. -/
namespace Go.Proofs.YtmpcafdgkbpneaaGreat
open Go.RowKit
set_option linter.unusedVariables false

theorem first4 (a : Nat) (h : a % 4096 ≤ 4092) : first a 4 = 4 := by unfold first; omega
theorem put_word (R : RS) (a v : Nat) (h : a % 4096 ≤ 4092) : putN R ⟨a, lin2 a 4, first a 4, 4 - first a 4⟩ v (first a 4 + (4 - first a 4)) = R.write a v 4 := by
 rw [first4 a h]; rfl
theorem get_word (R : RS) (a : Nat) (h : a % 4096 ≤ 4092) : getN R ⟨a, lin2 a 4, first a 4, 4 - first a 4⟩ (first a 4 + (4 - first a 4)) = R.read a 4 := by
 rw [first4 a h]; rfl
theorem get_half (R : RS) (a : Nat) (h : a % 4096 ≤ 4092) : getN R ⟨a, lin2 a 2, first a 2, 2 - first a 2⟩ (first a 2 + (2 - first a 2)) = R.read a 2 := by
 rw [show first a 2 = 2 by unfold first; omega]; rfl
theorem pg_flat {R : RS} {C : CpuS} (hp : C.paged = false) (lin size : Nat) (wr us : Bool) : pg R C lin size wr us = (.ok ⟨lin, lin2 lin size, first lin size, size - first lin size⟩, R) := by
 unfold pg
 rw [hp]
 rfl
theorem tell_ok (v : Nat) (R : RS) (s : Es) : toldE ((v, noF), R) s = (.ok v, ⟨s.C, R⟩) := by
 unfold toldE
 exact if_neg (show ¬ (0 : Int) ≤ -1 by decide)
section
variable {s : Es} {a : Nat}
theorem sys_word (hp : s.C.paged = false) (h : a % 4096 ≤ 4092) : sysE a 4 s = (.ok (s.R.read a 4), s) := by
 show toldE (ldOf (sy s.R s.C a ((4 : Nat) : Int) false)) s = _
 rw [sy_yes (.inr (.inr rfl)), pg_flat hp]
 show toldE ((getN s.R ⟨a, lin2 a 4, first a 4, 4 - first a 4⟩ (first a 4 + (4 - first a 4)), noF), s.R) s = _
 rw [get_word _ _ h, tell_ok]
theorem sys_half (hp : s.C.paged = false) (h : a % 4096 ≤ 4092) : sysE a 2 s = (.ok (s.R.read a 2), s) := by
 show toldE (ldOf (sy s.R s.C a ((2 : Nat) : Int) false)) s = _
 rw [sy_yes (.inr (.inl rfl)), pg_flat hp]
 show toldE ((getN s.R ⟨a, lin2 a 2, first a 2, 2 - first a 2⟩ (first a 2 + (2 - first a 2)), noF), s.R) s = _
 rw [get_half _ _ h, tell_ok]
theorem sg_flat {R : RS} {C : CpuS} (hp : C.paged = false) (hn : (C.seg 2).nul = false) (hb : (C.seg 2).base = 0) (wr : Bool) (hr : (C.seg 2).reach a 4 wr = true) (ha : a < 4294967296) :
    sg R C 2 a 4 wr = (.ok ⟨a, lin2 a 4, first a 4, 4 - first a 4⟩, R) := by
 unfold sg
 rw [if_pos ⟨.inr (.inr rfl), by decide, by decide⟩]
 show sg2 R C 2 a 4 wr = _
 unfold sg2
 rw [if_pos ⟨hn, hr⟩, hb, pg_flat hp, Nat.zero_add, Nat.mod_eq_of_lt ha]
 rfl
structure Stk (C : CpuS) : Prop where
 p : C.paged = false
 n : (C.seg 2).nul = false
 b : (C.seg 2).base = 0
 l : (C.seg 2).lim = 4294967295
 t : (C.seg 2).typ = 2
 s : (C.seg 2).sys = false
 e : (C.seg 2).pre = true
 g : (C.seg 2).big = true
theorem Stk.reach {C : CpuS} (h : Stk C) (wr : Bool) (ha : a ≤ 4294967292) : (C.seg 2).reach a 4 wr = true := by
 unfold SegR.reach
 rw [h.l, h.t, h.s, h.e, h.g]
 unfold Go.Proofs.YtmpcafdgkbpneaaGreat.reach
 rw [show lR 2 false = true from rfl, show lW 2 false = true from rfl, show lD 2 false = false from rfl]
 have h1 : decide ((a : Int) + ((4 : Nat) : Int) - 1 ≤ ((4294967295 : Nat) : Int)) = true := by rw [decide_eq_true_eq]; omega
 cases wr <;> simpa using h1
theorem load_word (h : Stk s.C) (ha : a ≤ 4294967292) (h4 : a % 4096 ≤ 4092) : loadE 2 a 4 s = (.ok (s.R.read a 4), s) := by
 show toldE (ldOf (sg s.R s.C 2 a 4 false)) s = _
 rw [sg_flat h.p h.n h.b false (h.reach false ha) (by omega)]
 show toldE ((getN s.R ⟨a, lin2 a 4, first a 4, 4 - first a 4⟩ (first a 4 + (4 - first a 4)), noF), s.R) s = _
 rw [get_word _ _ h4, tell_ok]
theorem store_word (h : Stk s.C) (ha : a ≤ 4294967292) (h4 : a % 4096 ≤ 4092) (v : Nat) : storeE 2 a 4 v s = (.ok 0, ⟨s.C, s.R.write a v 4⟩) := by
 show toldE ((0, (st s.R s.C 2 a 4 v).1), (st s.R s.C 2 a 4 v).2) s = _
 rw [st_ok (sg_flat h.p h.n h.b true (h.reach true ha) (by omega))]
 show toldE ((0, noF), putN s.R ⟨a, lin2 a 4, first a 4, 4 - first a 4⟩ v (first a 4 + (4 - first a 4))) s = _
 rw [put_word _ _ _ h4, tell_ok]
theorem push_word (h : Stk s.C) (he : (s.C.r 4 + 4294967292) % 4294967296 = a) (ha : a ≤ 4294967292) (h4 : a % 4096 ≤ 4092) (v : Nat) : pushE v s = (.ok (), ⟨s.C.setR 4 a, s.R.write a v 4⟩) := by
 unfold pushE
 show (storeE 2 ((s.C.r 4 + 4294967292) % 4294967296) 4 v).then _ s = _
 rw [he, Ex.then_ok (store_word h ha h4 v)]
 rfl
end
structure Tabs (R : RS) (kind : Nat) : Prop where
 plain : Plain R
 size : R.size = 65536
 gate : ∀ v, v < 64 → R.read (3072 + 8 * v) 4 = 548864 + 16 * v ∧ R.read (3076 + 8 * v) 4 = kind
 d8 : R.read 2056 4 = 65535 ∧ R.read 2060 4 = 13605376
 d16 : R.read 2064 4 = 65535 ∧ R.read 2068 4 = 13603328
 d24 : R.read 2072 4 = 65535 ∧ R.read 2076 4 = 13629952
 d32 : R.read 2080 4 = 65535 ∧ R.read 2084 4 = 13627904
 task : R.read 2564 4 = 40704 ∧ R.read 2568 4 = 16
theorem Tabs.write {R : RS} {kind : Nat} (h : Tabs R kind) (a v : Nat) (h0 : 4096 ≤ a) (h1 : a < 65536) (h4 : a % 4 = 0) : Tabs (R.write a v 4) kind := by
 have g := h.plain.write4 a v (by omega) h4
 have k : ∀ b, b < 4096 → b % 4 = 0 → (R.write a v 4).read b 4 = R.read b 4 := fun b hb hb4 => h.plain.read_other a b v (by omega) h4 (by omega) hb4 (by omega)
 refine ⟨g.1, g.2.1.trans h.size, fun v hv => ?_, ?_, ?_, ?_, ?_, ?_⟩
 ·rw [k _ (by omega) (by omega), k _ (by omega) (by omega)]; exact h.gate v hv
 ·rw [k _ (by decide) (by decide), k _ (by decide) (by decide)]; exact h.d8
 ·rw [k _ (by decide) (by decide), k _ (by decide) (by decide)]; exact h.d16
 ·rw [k _ (by decide) (by decide), k _ (by decide) (by decide)]; exact h.d24
 ·rw [k _ (by decide) (by decide), k _ (by decide) (by decide)]; exact h.d32
 ·rw [k _ (by decide) (by decide), k _ (by decide) (by decide)]; exact h.task
theorem Tabs.same {R : RS} {kind : Nat} (h : Tabs R kind) (a v : Nat) (h1 : a < 65536) (h4 : a % 4 = 0) (hv : v < 4294967296) : (R.write a v 4).read a 4 = v := h.plain.read_same a v (by omega) h4 (by rw [h.size]; exact h1) hv
theorem Tabs.other {R : RS} {kind : Nat} (h : Tabs R kind) (a b v : Nat) (ha : a < 65536) (h4 : a % 4 = 0) (hb : b < 65536) (hb4 : b % 4 = 0) (hne : a ≠ b) : (R.write a v 4).read b 4 = R.read b 4 := h.plain.read_other a b v (by omega) h4 (by omega) hb4 hne
theorem read2 {R : RS} {a v : Nat} (h : R.read a 4 = v) (hv : v < 65536) (hR : R.ok) : R.read a 2 = v := by
 have h1 : R.read a 4 = R.read a 2 + R.get (at32 a 2) * 65536 + R.get (at32 a 3) * 16777216 := rfl
 omega
def chkT (kind : Nat) : Bool := ((List.range 64).all fun v => (startR kind).read (3072 + 8 * v) 4 == 548864 + 16 * v && (startR kind).read (3076 + 8 * v) 4 == kind) &&
 ((startR kind).read 2056 4 == 65535 && (startR kind).read 2060 4 == 13605376 && (startR kind).read 2064 4 == 65535 && (startR kind).read 2068 4 == 13603328 && (startR kind).read 2072 4 == 65535 && (startR kind).read 2076 4 == 13629952 && (startR kind).read 2080 4 == 65535 && (startR kind).read 2084 4 == 13627904 && (startR kind).read 2564 4 == 40704 && (startR kind).read 2568 4 == 16)
theorem wr_pages (R : RS) (a v : Nat) : (R.wr a v).pages = R.pages := by unfold RS.wr; split <;> rfl
theorem write_pages (R : RS) (a v : Nat) : ∀ k, (R.write a v k).pages = R.pages
 | 0 => rfl
 | k + 1 => (wr_pages _ _ _).trans (write_pages R a v k)
theorem writes_pages (R : RS) (at_ v : Nat → Nat) : ∀ k, (R.writes at_ v k).pages = R.pages
 | 0 => rfl
 | k + 1 => (write_pages _ _ _ _).trans (writes_pages R at_ v k)
theorem start_pages (kind : Nat) : (startR kind).pages = 16 := writes_pages (RS.new 16) tabA (tabV kind) 138
theorem Tabs.of {kind : Nat} (h : chkT kind = true) : Tabs (startR kind) kind := by
 unfold chkT at h
 simp only [Bool.and_eq_true, beq_iff_eq] at h
 obtain ⟨h0, h1⟩ := h
 have hs : (startR kind).size = 65536 := by
  unfold RS.size
  rw [start_pages]
 refine ⟨Plain.both 16 tabA (tabV kind) 138 (fun _ => 0), hs, fun v hv => ?_, ?_, ?_, ?_, ?_, ?_⟩
 ·have := List.all_eq_true.1 h0 v (List.mem_range.2 hv)
  simpa only [Bool.and_eq_true, beq_iff_eq] using this
 all_goals simp only [h1, and_self]
theorem tabsEE : Tabs (startR 60928) 60928 := Tabs.of (by kernel_rfl)
theorem tabsEF : Tabs (startR 61184) 61184 := Tabs.of (by kernel_rfl)
end Go.Proofs.YtmpcafdgkbpneaaGreat

/- except's laws, plainly: a delivery over the laws' tables. -/
namespace Go.Proofs.YtmpcafdgkbpneaaGreat
open Go.RowKit
set_option linter.unusedVariables false

structure Cst (C : CpuS) : Prop where
 p : C.paged = false
 gb : C.gb = 2048
 gl : C.gl = 47
 ib : C.ib = 3072
 il : C.il = 511
section
variable {s : Es} {kind v : Nat}
theorem desc_of (h : Cst s.C) (sel lo hi : Nat) (d : SegR) (hs : sel / 4 % 2 = 0) (hl : sel - sel % 8 + 7 ≤ 47) (h1 : s.R.read (2048 + (sel - sel % 8)) 4 = lo) (h2 : s.R.read (2048 + (sel - sel % 8) + 4) 4 = hi) (hd : SegR.of sel lo hi = d) (vec cd : Int) : descE sel vec cd s = (.ok d, s) := by
 have e1 : (s.C.gb + (sel - sel % 8)) % 4294967296 = 2048 + (sel - sel % 8) := by rw [h.gb]; omega
 have e2 : (2048 + (sel - sel % 8) + 4) % 4294967296 = 2048 + (sel - sel % 8) + 4 := by omega
 unfold descE
 show (needE (sel / 4 % 2 == 0 && decide (sel - sel % 8 + 7 ≤ s.C.gl)) vec cd).then _ s = _
 rw [Ex.then_ok (need_ok (by rw [h.gl, hs]; simp; omega) vec cd s), e1, e2, Ex.then_ok (sys_word h.p (by omega)), Ex.then_ok (sys_word h.p (by omega)), h1, h2, hd]
 rfl
def d8 : SegR := ⟨8, false, 0, 4294967295, 10, false, 0, true, true⟩
def d16 : SegR := ⟨16, false, 0, 4294967295, 2, false, 0, true, true⟩
def d27 : SegR := ⟨27, false, 0, 4294967295, 10, false, 3, true, true⟩
def d35 : SegR := ⟨35, false, 0, 4294967295, 2, false, 3, true, true⟩
theorem desc8 (T : Tabs s.R kind) (h : Cst s.C) (vec cd : Int) : descE 8 vec cd s = (.ok d8, s) := desc_of h 8 65535 13605376 d8 rfl (by decide) T.d8.1 T.d8.2 (by kernel_rfl) vec cd
theorem desc16 (T : Tabs s.R kind) (h : Cst s.C) (vec cd : Int) : descE 16 vec cd s = (.ok d16, s) := desc_of h 16 65535 13603328 d16 rfl (by decide) T.d16.1 T.d16.2 (by kernel_rfl) vec cd
theorem desc27 (T : Tabs s.R kind) (h : Cst s.C) (vec cd : Int) : descE 27 vec cd s = (.ok d27, s) := desc_of h 27 65535 13629952 d27 rfl (by decide) T.d24.1 T.d24.2 (by kernel_rfl) vec cd
theorem desc35 (T : Tabs s.R kind) (h : Cst s.C) (vec cd : Int) : descE 35 vec cd s = (.ok d35, s) := desc_of h 35 65535 13627904 d35 rfl (by decide) T.d32.1 T.d32.2 (by kernel_rfl) vec cd
theorem enter_flat (T : Tabs s.R kind) (h : Cst s.C) (hv : v < 64) (num : Int) (soft : Bool) {k : Nat} (hk : kind / 256 % 32 = k) (h14 : k = 14 ∨ k = 15) (hp : kind / 32768 % 2 = 1) (hs : soft = true → s.C.ring ≤ kind / 8192 % 4) (hlt : kind < 65536) :
    enterE (v : Nat) num soft s = enter3 num (xOf soft) k 8 (24576 + 16 * v) d8 s := by
 have e1 : (s.C.ib + 8 * v) % 4294967296 = 3072 + 8 * v := by rw [h.ib]; omega
 have e2 : (s.C.ib + (8 * v + 4)) % 4294967296 = 3076 + 8 * v := by rw [h.ib]; omega
 have e3 : (548864 + 16 * v) / 65536 = 8 := by omega
 have e4 : (548864 + 16 * v) % 65536 = 24576 + 16 * v := by omega
 have e5 : kind / 65536 = 0 := by omega
 unfold enterE
 rw [Ex.then_ok (need_ok (by simp; omega) 13 0 s), Int.toNat_natCast]
 unfold enter1
 show (needE (decide (8 * v + 7 ≤ s.C.il)) 13 (8 * (v : Int) + 2 + xOf soft)).then _ s = _
 rw [Ex.then_ok (need_ok (by rw [h.il]; simp; omega) _ _ s), e1, e2, Ex.then_ok (sys_word h.p (by omega)), Ex.then_ok (sys_word h.p (by omega)), (T.gate v hv).1, (T.gate v hv).2]
 unfold enter2
 show (needE ((kind / 256 % 32 == 14 || kind / 256 % 32 == 15) && (!soft || decide (s.C.ring ≤ kind / 8192 % 4))) 13 (8 * (v : Int) + 2 + xOf soft)).then _ s = _
 have c1 : ((kind / 256 % 32 == 14 || kind / 256 % 32 == 15) && (!soft || decide (s.C.ring ≤ kind / 8192 % 4))) = true := by
  rw [hk]
  have c2 : (k == 14 || k == 15) = true := by rcases h14 with rfl | rfl <;> rfl
  rw [c2]
  cases soft
  ·rfl
  ·simp [hs rfl]
 rw [Ex.then_ok (need_ok c1 _ _ s), Ex.then_ok (need_ok (by rw [hp]; rfl) _ _ s), e3, Ex.then_ok (need_ok (by rfl) _ _ s), Ex.then_ok (desc8 T h _ _), Ex.then_ok (need_ok (by
  show (d8.isCode && decide ((0 : Int) ≤ s.C.ring)) = true
  rw [show d8.isCode = true by kernel_rfl]
  simp) _ _ s), Ex.then_ok (need_ok (by rfl) _ _ s), e4, e5, Nat.zero_mul, Nat.add_zero, Ex.then_ok (need_ok (by
  show decide (24576 + 16 * v ≤ 4294967295) = true
  simp; omega) _ _ s), hk]
end
end Go.Proofs.YtmpcafdgkbpneaaGreat

/- except's law Pushes, plainly. -/
namespace Go.Proofs.YtmpcafdgkbpneaaGreat
open Go.RowKit
set_option linter.unusedVariables false

theorem setR_setR (C : CpuS) (i a b : Nat) : (C.setR i a).setR i b = C.setR i b := by
 unfold CpuS.setR
 congr 1
 funext j
 by_cases h : j = i <;> simp [h]
theorem Stk.setR {C : CpuS} (h : Stk C) (v : Nat) : Stk (C.setR 4 v) := ⟨h.p, h.n, h.b, h.l, h.t, h.s, h.e, h.g⟩
theorem Stk.setCs {C : CpuS} (h : Stk C) (d : SegR) : Stk (C.setSeg 1 d) := ⟨h.p, h.n, h.b, h.l, h.t, h.s, h.e, h.g⟩
theorem push_at {s : Es} (h : Stk s.C) {a : Nat} (he : s.C.r 4 = a + 4) (ha : a ≤ 4294967288) (h4 : a % 4 = 0) (v : Nat) : pushE v s = (.ok (), ⟨s.C.setR 4 a, s.R.write a v 4⟩) :=
 push_word h (by rw [he]; omega) (by omega) (by omega) v
def R3 (R : RS) (a f c p : Nat) : RS := ((R.write (a + 12) f 4).write (a + 8) c 4).write (a + 4) p 4
def R4 (R : RS) (a f c p : Nat) (num : Int) : RS := if 0 ≤ num then (R3 R a f c p).write a (num % 4294967296).toNat 4 else R3 R a f c p
def E4 (a : Nat) (num : Int) : Nat := if 0 ≤ num then a else a + 4
theorem pushes_same {s : Es} (h : Stk s.C) {a : Nat} (he : s.C.r 4 = a + 16) (ha : a ≤ 4294967000) (h4 : a % 4 = 0) (old : CpuS) (num : Int) :
    pushesE old false num s = (.ok (), ⟨s.C.setR 4 (E4 a num), R4 s.R a old.flags (old.seg 1).sel old.eip num⟩) := by
 unfold pushesE
 rw [Ex.then_ok (show whenE false _ s = (.ok (), s) from rfl),
  Ex.then_ok (push_at h (a := a + 12) he (by omega) (by omega) old.flags),
  Ex.then_ok (push_at (h.setR _) (a := a + 8) rfl (by omega) (by omega) (old.seg 1).sel),
  Ex.then_ok (push_at ((h.setR _).setR _) (a := a + 4) rfl (by omega) (by omega) old.eip)]
 unfold E4 R4
 by_cases hn : 0 ≤ num
 ·rw [decide_eq_true hn, if_pos hn, if_pos hn]
  show pushE _ _ = _
  rw [push_at (((h.setR _).setR _).setR _) (a := a) rfl (by omega) h4]
  show _ = (Except.ok (), Es.mk (s.C.setR 4 a) _)
  simp only [setR_setR]
  rfl
 ·rw [decide_eq_false hn, if_neg hn, if_neg hn]
  show (Except.ok (), Es.mk (((s.C.setR 4 (a + 12)).setR 4 (a + 8)).setR 4 (a + 4)) _) = _
  simp only [setR_setR]
  rfl
theorem d8_conf : d8.conf = false := by kernel_rfl
theorem d8_ring (r : Nat) : toRing d8 r = 0 := by
 unfold toRing
 rw [d8_conf]
 by_cases h : (d8.dpl : Int) < r
 ·rw [decide_eq_true h]; rfl
 ·rw [decide_eq_false h]
  have h : ¬ (0 : Int) < r := h
  simp only [Bool.not_false, Bool.true_and, Bool.false_eq_true, if_false]
  omega
theorem enter3_same {s : Es} (hr : s.C.ring = 0) (h : Stk s.C) {a : Nat} (he : s.C.r 4 = a + 16) (ha : a ≤ 4294967000) (h4 : a % 4 = 0) (num x : Int) (k place : Nat) :
    enter3 num x k 8 place d8 s = (.ok (), ⟨((s.C.setSeg 1 d8).setR 4 (E4 a num)).placed place k, R4 s.R a s.C.flags (s.C.seg 1).sel s.C.eip num⟩) := by
 unfold enter3
 show (whenE (!d8.conf && decide (d8.dpl < s.C.ring)) (innerE (toRing d8 s.C.ring) x)).then _ s = _
 rw [hr, d8_ring, d8_conf]
 rw [Ex.then_ok (show whenE (!false && decide (d8.dpl < ((0 : Nat) : Int))) (innerE 0 x) s = (.ok (), s) from rfl)]
 rw [Ex.then_ok (show Ex.upd (fun s1 => ⟨s1.C.setSeg 1 { d8 with sel := 8 - 8 % 4 + 0 }, s1.R⟩) s = (.ok (), ⟨s.C.setSeg 1 d8, s.R⟩) from rfl)]
 rw [show ((0 : Nat) != 0) = false from rfl, Ex.then_ok (pushes_same (s := ⟨s.C.setSeg 1 d8, s.R⟩) (h.setCs d8) he ha h4 s.C num)]
 rfl
end Go.Proofs.YtmpcafdgkbpneaaGreat

/- except's law Back, plainly. -/
namespace Go.Proofs.YtmpcafdgkbpneaaGreat
open Go.RowKit
set_option linter.unusedVariables false

def backC (ring : Nat) (regs : Nat → Nat) (F P : Nat) : CpuS := { startC ring with r := fun i => if i = 4 then 36864 else regs i, flags := F, eip := P }
section
variable {regs : Nat → Nat} {F P v k kind : Nat} {R : RS}
theorem backC_cst (ring : Nat) : Cst (backC ring regs F P) := ⟨by kernel_rfl, rfl, rfl, rfl, rfl⟩
theorem backC_stk (ring : Nat) : Stk (backC ring regs F P) := ⟨by kernel_rfl, rfl, rfl, rfl, rfl, rfl, rfl, rfl⟩
def R5 (R : RS) (a ss sp f c p : Nat) : RS := ((((R.write (a + 16) ss 4).write (a + 12) sp 4).write (a + 8) f 4).write (a + 4) c 4).write a p 4
theorem pushes_other {s : Es} (h : Stk s.C) {a : Nat} (he : s.C.r 4 = a + 20) (ha : a ≤ 4294967000) (h4 : a % 4 = 0) (old : CpuS) :
    pushesE old true (-1) s = (.ok (), ⟨s.C.setR 4 a, R5 s.R a (old.seg 2).sel (old.r 4) old.flags (old.seg 1).sel old.eip⟩) := by
 have e1 : ((pushE (old.seg 2).sel).then fun _ => pushE (old.r 4)) s = (.ok (), ⟨(s.C.setR 4 (a + 16)).setR 4 (a + 12), (s.R.write (a + 16) (old.seg 2).sel 4).write (a + 12) (old.r 4) 4⟩) := by
  rw [Ex.then_ok (push_at h (a := a + 16) he (by omega) (by omega) _), push_at (h.setR _) (a := a + 12) rfl (by omega) (by omega) _]
 unfold pushesE
 rw [show ∀ m : Ex Unit, whenE true m = m from fun _ => rfl, Ex.then_ok e1,
  Ex.then_ok (push_at ((h.setR _).setR _) (a := a + 8) rfl (by omega) (by omega) old.flags),
  Ex.then_ok (push_at (((h.setR _).setR _).setR _) (a := a + 4) rfl (by omega) (by omega) (old.seg 1).sel),
  Ex.then_ok (push_at ((((h.setR _).setR _).setR _).setR _) (a := a) rfl (by omega) (by omega) old.eip)]
 show (Except.ok (), Es.mk (((((s.C.setR 4 (a + 16)).setR 4 (a + 12)).setR 4 (a + 8)).setR 4 (a + 4)).setR 4 a) _) = _
 simp only [setR_setR]
 rfl
theorem inner_flat {s : Es} (T : Tabs s.R kind) (h : Cst s.C) (hb : s.C.tr.base = 2560) (hl : s.C.tr.lim = 103) (x : Int) : innerE 0 x s = (.ok (), ⟨(s.C.setSeg 2 d16).setR 4 40704, s.R⟩) := by
 have e1 : (s.C.tr.base + (8 * 0 + 4)) % 4294967296 = 2564 := by rw [hb]
 unfold innerE
 show (needE (decide (8 * 0 + 11 ≤ s.C.tr.lim)) 10 ((codeOfN s.C.tr.sel : Nat) + x)).then _ s = _
 rw [Ex.then_ok (need_ok (by rw [hl]; rfl) _ _ s), e1, Ex.then_ok (sys_word h.p (by decide)), show (2564 + 4) % 4294967296 = 2568 from rfl, Ex.then_ok (sys_half h.p (by decide)), T.task.1, read2 T.task.2 (by decide) T.plain.ok,
  Ex.then_ok (need_ok (by rfl) _ _ s), Ex.then_ok (desc16 T h _ _), Ex.then_ok (need_ok (by kernel_rfl) _ _ s), Ex.then_ok (need_ok (by rfl) _ _ s)]
 rfl
theorem enter3_gen {s : Es} {x : Int} {a : Nat} (hr : s.C.ring = 3) (hp : s.C.paged = false) (hi : innerE 0 x s = (.ok (), ⟨(s.C.setSeg 2 d16).setR 4 (a + 20), s.R⟩)) (ha : a ≤ 4294967000) (h4 : a % 4 = 0) (k place : Nat) :
    enter3 (-1) x k 8 place d8 s = (.ok (), ⟨((((s.C.setSeg 2 d16).setR 4 (a + 20)).setSeg 1 d8).setR 4 a).placed place k, R5 s.R a (s.C.seg 2).sel (s.C.r 4) s.C.flags (s.C.seg 1).sel s.C.eip⟩) := by
 unfold enter3
 show (whenE (!d8.conf && decide (d8.dpl < s.C.ring)) (innerE (toRing d8 s.C.ring) x)).then _ s = _
 rw [hr, d8_ring, d8_conf]
 rw [Ex.then_ok (show whenE (!false && decide (d8.dpl < ((3 : Nat) : Int))) (innerE 0 x) s = _ from hi)]
 rw [Ex.then_ok (show Ex.upd (fun s1 => ⟨s1.C.setSeg 1 { d8 with sel := 8 - 8 % 4 + 0 }, s1.R⟩) ⟨(s.C.setSeg 2 d16).setR 4 (a + 20), s.R⟩ = (.ok (), ⟨((s.C.setSeg 2 d16).setR 4 (a + 20)).setSeg 1 d8, s.R⟩) from rfl)]
 rw [show ((0 : Nat) != 3) = true from rfl, Ex.then_ok (pushes_other (s := ⟨((s.C.setSeg 2 d16).setR 4 (a + 20)).setSeg 1 d8, s.R⟩) ⟨hp, rfl, rfl, rfl, rfl, rfl, rfl, rfl⟩ (a := a) rfl ha h4 s.C)]
 generalize R5 _ _ _ _ _ _ _ = R'
 rfl
def inFlags (F k : Nat) : Nat := if k = 14 then clr (clr F 16640) 512 else clr F 16640
theorem mask_zero (C : CpuS) (h : C.ring = 0) : maskOf C = 32725 := by
 unfold maskOf
 rw [h, if_pos (Nat.zero_le _), if_pos rfl]
theorem popped_back {G : Nat} (hG : G < 4294967296) {C : CpuS} (hr : C.ring = 0) (hf : C.flags = inFlags (G ||| 2) k) : poppedE C (G ||| 2) = G ||| 2 := by
 have hF : G ||| 2 < 4294967296 := Nat.or_lt_two_pow (n := 32) hG (by decide)
 have key : ∀ K, K &&& 4294934570 ||| 32725 = 4294967295 → (((G ||| 2) &&& K) &&& 4294934570) ||| ((G ||| 2) &&& 32725) = G ||| 2 := fun K hK => by
  rw [Nat.and_assoc, ← Nat.and_or_distrib_left, hK]
  exact (Nat.and_two_pow_sub_one_eq_mod _ 32).trans (Nat.mod_eq_of_lt hF)
 unfold poppedE
 rw [mask_zero C hr, hf]
 have e : (inFlags (G ||| 2) k &&& (4294967295 - 32725)) ||| ((G ||| 2) &&& 32725) = G ||| 2 := by
  unfold inFlags clr
  split
  ·rw [Nat.and_assoc (G ||| 2)]
   exact key _ (by decide)
  ·exact key _ (by decide)
 rw [e, Nat.or_assoc]
 rfl
theorem in_nt (F : Nat) : (inFlags F k / 16384 % 2 == 0) = true := by
 have key : ∀ K, Nat.testBit K 14 = false → ((F &&& K) / 16384 % 2 == 0) = true := fun K hK => by
  have h := Nat.testBit_and F K 14
  rw [hK, Bool.and_false, Nat.testBit_eq_decide_div_mod_eq] at h
  have h := of_decide_eq_false h
  simp only [beq_iff_eq]
  have e : (2 : Nat) ^ 14 = 16384 := rfl
  rw [e] at h
  omega
 unfold inFlags clr
 split
 ·rw [Nat.and_assoc]
  exact key _ (by decide)
 ·exact key _ (by decide)
theorem cells_ext {C D : CpuS} (hr : ∀ i, C.r i = D.r i) (h1 : C.eip = D.eip) (h2 : C.flags = D.flags) (hs : ∀ i, i < 6 → C.seg i = D.seg i) (h3 : C.cr0 = D.cr0) (h4 : C.cr2 = D.cr2) (h5 : C.cr3 = D.cr3) (h6 : C.gb = D.gb) (h7 : C.gl = D.gl) (h8 : C.ib = D.ib) (h9 : C.il = D.il) (ht : C.tr = D.tr) (ha : C.shadow = D.shadow) (hb : C.halted = D.halted) (hc : C.dead = D.dead) : C.cells = D.cells := by
 unfold CpuS.cells regCells
 rw [hr, hr, hr, hr, hr, hr, hr, hr, h1, h2, hs 0 (by decide), hs 1 (by decide), hs 2 (by decide), hs 3 (by decide), hs 4 (by decide), hs 5 (by decide), h3, h4, h5, h6, h7, h8, h9, ht, ha, hb, hc]
theorem drop_keep (C : CpuS) (i : Nat) (h : (C.seg i).drops 3 = false) : (C.dropSegs 3).seg i = C.seg i := by
 unfold CpuS.dropSegs
 show (if _ ∧ (C.seg i).drops 3 = true then nullSeg else C.seg i) = _
 rw [h, if_neg (fun x => by cases x.2)]
def backD (regs : Nat → Nat) (F P v k : Nat) : CpuS := (((backC 0 regs F P).setSeg 1 d8).setR 4 36852).placed (24576 + 16 * v) k
theorem back_in (T : Tabs R kind) (hv : v < 64) (soft : Bool) (hk : kind / 256 % 32 = k) (h14 : k = 14 ∨ k = 15) (hp : kind / 32768 % 2 = 1) (hd : kind / 8192 % 4 = 3) (hlt : kind < 65536) :
    triedE (enterE (v : Nat) (-1) soft) ⟨backC 0 regs F P, R⟩ = (noF, ⟨backD regs F P v k, R3 R 36848 F 8 P⟩) := by
 unfold triedE
 rw [enter_flat (s := ⟨backC 0 regs F P, R⟩) T (backC_cst 0) hv (-1) soft hk h14 hp (fun _ => by rw [show (Es.mk (backC 0 regs F P) R).C.ring = 0 by kernel_rfl]; exact Nat.zero_le _) hlt, enter3_same (s := ⟨backC 0 regs F P, R⟩) (by kernel_rfl) (backC_stk 0) (a := 36848) rfl (by decide) (by decide)]
 rw [show R4 (Es.mk (backC 0 regs F P) R).R 36848 (Es.mk (backC 0 regs F P) R).C.flags ((Es.mk (backC 0 regs F P) R).C.seg 1).sel (Es.mk (backC 0 regs F P) R).C.eip (-1) = R3 R 36848 F 8 P from if_neg (by decide)]
 generalize R3 _ _ _ _ _ = R'
 rfl
def backE (regs : Nat → Nat) (F P v k : Nat) : CpuS := (((((backC 3 regs F P).setSeg 2 d16).setR 4 40704).setSeg 1 d8).setR 4 40684).placed (24576 + 16 * v) k
theorem back_out (T : Tabs R kind) (hv : v < 64) (soft : Bool) (hk : kind / 256 % 32 = k) (h14 : k = 14 ∨ k = 15) (hp : kind / 32768 % 2 = 1) (hd : kind / 8192 % 4 = 3) (hlt : kind < 65536) :
    triedE (enterE (v : Nat) (-1) soft) ⟨backC 3 regs F P, R⟩ = (noF, ⟨backE regs F P v k, R5 R 40684 35 36864 F 27 P⟩) := by
 have e := enter3_gen (s := ⟨backC 3 regs F P, R⟩) (x := xOf soft) (a := 40684) (by kernel_rfl) (by kernel_rfl) (inner_flat (s := ⟨backC 3 regs F P, R⟩) T (backC_cst 3) rfl rfl (xOf soft)) (by decide) (by decide) k (24576 + 16 * v)
 rw [show ((Es.mk (backC 3 regs F P) R).C.seg 2).sel = 35 by kernel_rfl, show ((Es.mk (backC 3 regs F P) R).C.seg 1).sel = 27 by kernel_rfl, show (Es.mk (backC 3 regs F P) R).C.r 4 = 36864 by kernel_rfl, show (40684 + 20 : Nat) = 40704 from rfl] at e
 rw [show R5 (Es.mk (backC 3 regs F P) R).R 40684 35 36864 (Es.mk (backC 3 regs F P) R).C.flags 27 (Es.mk (backC 3 regs F P) R).C.eip = R5 R 40684 35 36864 F 27 P by rfl] at e
 unfold triedE
 rw [enter_flat (s := ⟨backC 3 regs F P, R⟩) T (backC_cst 3) hv (-1) soft hk h14 hp (fun _ => by rw [hd, show (Es.mk (backC 3 regs F P) R).C.ring = 3 by kernel_rfl]; exact Nat.le_refl 3) hlt, e]
 generalize R5 _ _ _ _ _ _ _ = R'
 rfl
end
section
variable {regs : Nat → Nat} {G P v k kind : Nat} {R : RS}
theorem back_same (T : Tabs R kind) (hG : G < 4294967296) (hP : P < 4294967296) :
    ∃ C', triedE (returnE 4) ⟨backD regs (G ||| 2) P v k, R3 R 36848 (G ||| 2) 8 P⟩ = (noF, ⟨C', R3 R 36848 (G ||| 2) 8 P⟩) ∧ C'.cells = (backC 0 regs (G ||| 2) P).cells := by
 have hF : G ||| 2 < 4294967296 := Nat.or_lt_two_pow (n := 32) hG (by decide)
 obtain ⟨F, eF⟩ : ∃ F, F = G ||| 2 := ⟨_, rfl⟩
 have T1 := T.write 36860 F (by decide) (by decide) (by decide)
 have T2 := T1.write 36856 8 (by decide) (by decide) (by decide)
 have T3 := T2.write 36852 P (by decide) (by decide) (by decide)
 have a1 := T.same 36860 F (by decide) (by decide) (by rw [eF]; exact hF)
 have a2 := T1.same 36856 8 (by decide) (by decide) (by decide)
 have a3 := T2.same 36852 P (by decide) (by decide) hP
 have b1 := T1.other 36856 36860 8 (by decide) (by decide) (by decide) (by decide) (by decide)
 have b2 := T2.other 36852 36860 P (by decide) (by decide) (by decide) (by decide) (by decide)
 have b3 := T2.other 36852 36856 P (by decide) (by decide) (by decide) (by decide) (by decide)
 have r0 : (R3 R 36848 F 8 P).read 36852 4 = P := a3
 have r1 : (R3 R 36848 F 8 P).read 36856 4 = 8 := b3.trans a2
 have r2 : (R3 R 36848 F 8 P).read 36860 4 = F := b2.trans (b1.trans a1)
 have hT : Tabs (R3 R 36848 F 8 P) kind := T3
 rw [← eF]
 obtain ⟨R', eR⟩ : ∃ R', R' = R3 R 36848 F 8 P := ⟨_, rfl⟩
 rw [← eR] at r0 r1 r2 hT ⊢
 obtain ⟨D, eD⟩ : ∃ D, D = backD regs F P v k := ⟨_, rfl⟩
 have hst : Stk D := by rw [eD]; exact ⟨by kernel_rfl, rfl, rfl, rfl, rfl, rfl, rfl, rfl⟩
 have hcs : Cst D := by rw [eD]; exact ⟨by kernel_rfl, rfl, rfl, rfl, rfl⟩
 have h4 : D.r 4 = 36852 := by rw [eD]; rfl
 have hring : D.ring = 0 := by rw [eD]; kernel_rfl
 have hfl : D.flags = inFlags F k := by rw [eD]; rfl
 rw [← eD]
 have key : return1 4 ⟨D, R'⟩ = (.ok (), ⟨(D.left 4 P 8 F d8).setR 4 (at3 D 4 3), R'⟩) := by
  have e0 : at3 D 4 1 = 36856 := by unfold at3; rw [h4]
  have e1 : at3 D 4 2 = 36860 := by unfold at3; rw [h4]
  unfold return1
  show (needE (D.flags / 16384 % 2 == 0) 13 0).then _ _ = _
  rw [Ex.then_ok (need_ok (by rw [hfl]; exact in_nt F) 13 0 _), h4, e0, e1]
  unfold nextE
  rw [show ((4 : Nat) : Int) = 4 from rfl, Ex.then_ok (load_word (s := ⟨D, R'⟩) hst (a := 36852) (by decide) (by decide)), Ex.then_ok (load_word (s := ⟨D, R'⟩) hst (a := 36856) (by decide) (by decide)), Ex.then_ok (load_word (s := ⟨D, R'⟩) hst (a := 36860) (by decide) (by decide)), r0, r1, r2]
  rw [Ex.then_ok (need_ok (by rfl) 13 0 _), hring, Ex.then_ok (need_ok (by rfl) _ _ _), Ex.then_ok (desc8 (s := ⟨D, R'⟩) hT hcs _ _), Ex.then_ok (need_ok (by kernel_rfl) _ _ _), Ex.then_ok (need_ok (by rfl) _ _ _)]
  rw [if_neg (by decide)]
  unfold return3
  show (needE (decide (P ≤ d8.lim)) 13 0).then _ _ = _
  rw [Ex.then_ok (need_ok (by show decide (P ≤ 4294967295) = true; simp; omega) 13 0 _)]
  rfl
 refine ⟨(D.left 4 P 8 F d8).setR 4 (at3 D 4 3), ?_, ?_⟩
 ·unfold triedE returnE
  rw [Ex.then_ok (need_ok (by rfl) 13 0 _)]
  rw [show (4 : Int).toNat = 4 from rfl, key]
 ·have hpop : poppedE D F = F := by rw [eF]; exact popped_back (k := k) hG hring (by rw [hfl, eF])
  have e3 : at3 D 4 3 = 36864 := by unfold at3; rw [h4]
  rw [e3]
  refine cells_ext (fun i => ?_) rfl hpop (fun i hi => ?_) ?_ ?_ ?_ ?_ ?_ ?_ ?_ ?_ rfl ?_ ?_
  ·show (if i = 4 then 36864 else D.r i) = (if i = 4 then 36864 else regs i)
   by_cases h : i = 4
   ·rw [if_pos h, if_pos h]
   ·rw [if_neg h, if_neg h, eD]
    show (if i = 4 then 36852 else if i = 4 then 36864 else regs i) = regs i
    rw [if_neg h, if_neg h]
  ·show (if i = 1 then { d8 with sel := 8 } else D.seg i) = (if i = 1 then flatSeg 8 10 0 else flatSeg 16 2 0)
   by_cases h : i = 1
   ·rw [if_pos h, if_pos h]; rfl
   ·rw [if_neg h, if_neg h, eD]
    show (if i = 1 then d8 else if i = 1 then flatSeg 8 10 0 else flatSeg 16 2 0) = flatSeg 16 2 0
    rw [if_neg h, if_neg h]
  all_goals (rw [eD]; rfl)
theorem back_other (T : Tabs R kind) (hG : G < 4294967296) (hP : P < 4294967296) :
    ∃ C', triedE (returnE 4) ⟨backE regs (G ||| 2) P v k, R5 R 40684 35 36864 (G ||| 2) 27 P⟩ = (noF, ⟨C', R5 R 40684 35 36864 (G ||| 2) 27 P⟩) ∧ C'.cells = (backC 3 regs (G ||| 2) P).cells := by
 have hF : G ||| 2 < 4294967296 := Nat.or_lt_two_pow (n := 32) hG (by decide)
 obtain ⟨F, eF⟩ : ∃ F, F = G ||| 2 := ⟨_, rfl⟩
 have T1 := T.write 40700 35 (by decide) (by decide) (by decide)
 have T2 := T1.write 40696 36864 (by decide) (by decide) (by decide)
 have T3 := T2.write 40692 F (by decide) (by decide) (by decide)
 have T4 := T3.write 40688 27 (by decide) (by decide) (by decide)
 have T5 := T4.write 40684 P (by decide) (by decide) (by decide)
 have a1 := T.same 40700 35 (by decide) (by decide) (by decide)
 have a2 := T1.same 40696 36864 (by decide) (by decide) (by decide)
 have a3 := T2.same 40692 F (by decide) (by decide) (by rw [eF]; exact hF)
 have a4 := T3.same 40688 27 (by decide) (by decide) (by decide)
 have a5 := T4.same 40684 P (by decide) (by decide) hP
 have r0 : (R5 R 40684 35 36864 F 27 P).read 40684 4 = P := a5
 have r1 : (R5 R 40684 35 36864 F 27 P).read 40688 4 = 27 := (T4.other 40684 40688 P (by decide) (by decide) (by decide) (by decide) (by decide)).trans a4
 have r2 : (R5 R 40684 35 36864 F 27 P).read 40692 4 = F := (T4.other 40684 40692 P (by decide) (by decide) (by decide) (by decide) (by decide)).trans ((T3.other 40688 40692 27 (by decide) (by decide) (by decide) (by decide) (by decide)).trans a3)
 have r3 : (R5 R 40684 35 36864 F 27 P).read 40696 4 = 36864 := (T4.other 40684 40696 P (by decide) (by decide) (by decide) (by decide) (by decide)).trans ((T3.other 40688 40696 27 (by decide) (by decide) (by decide) (by decide) (by decide)).trans ((T2.other 40692 40696 F (by decide) (by decide) (by decide) (by decide) (by decide)).trans a2))
 have r4 : (R5 R 40684 35 36864 F 27 P).read 40700 4 = 35 := (T4.other 40684 40700 P (by decide) (by decide) (by decide) (by decide) (by decide)).trans ((T3.other 40688 40700 27 (by decide) (by decide) (by decide) (by decide) (by decide)).trans ((T2.other 40692 40700 F (by decide) (by decide) (by decide) (by decide) (by decide)).trans ((T1.other 40696 40700 36864 (by decide) (by decide) (by decide) (by decide) (by decide)).trans a1)))
 have hT : Tabs (R5 R 40684 35 36864 F 27 P) kind := T5
 rw [← eF]
 obtain ⟨R', eR⟩ : ∃ R', R' = R5 R 40684 35 36864 F 27 P := ⟨_, rfl⟩
 rw [← eR] at r0 r1 r2 r3 r4 hT ⊢
 obtain ⟨D, eD⟩ : ∃ D, D = backE regs F P v k := ⟨_, rfl⟩
 have hst : Stk D := by rw [eD]; exact ⟨by kernel_rfl, rfl, rfl, rfl, rfl, rfl, rfl, rfl⟩
 have hcs : Cst D := by rw [eD]; exact ⟨by kernel_rfl, rfl, rfl, rfl, rfl⟩
 have h4 : D.r 4 = 40684 := by rw [eD]; rfl
 have hring : D.ring = 0 := by rw [eD]; kernel_rfl
 have hfl : D.flags = inFlags F k := by rw [eD]; rfl
 rw [← eD]
 have key : return1 4 ⟨D, R'⟩ = (.ok (), ⟨((((D.left 4 P 27 F d27).setSeg 2 d35).setR 4 36864).dropSegs 3), R'⟩) := by
  have e0 : at3 D 4 1 = 40688 := by unfold at3; rw [h4]
  have e1 : at3 D 4 2 = 40692 := by unfold at3; rw [h4]
  have e2 : at3 D 4 3 = 40696 := by unfold at3; rw [h4]
  have e3 : at3 D 4 4 = 40700 := by unfold at3; rw [h4]
  unfold return1
  show (needE (D.flags / 16384 % 2 == 0) 13 0).then _ _ = _
  rw [Ex.then_ok (need_ok (by rw [hfl]; exact in_nt F) 13 0 _), h4, e0, e1]
  unfold nextE
  rw [show ((4 : Nat) : Int) = 4 from rfl, Ex.then_ok (load_word (s := ⟨D, R'⟩) hst (a := 40684) (by decide) (by decide)), Ex.then_ok (load_word (s := ⟨D, R'⟩) hst (a := 40688) (by decide) (by decide)), Ex.then_ok (load_word (s := ⟨D, R'⟩) hst (a := 40692) (by decide) (by decide)), r0, r1, r2]
  rw [Ex.then_ok (need_ok (by rfl) 13 0 _), hring, Ex.then_ok (need_ok (by rfl) _ _ _), Ex.then_ok (desc27 (s := ⟨D, R'⟩) hT hcs _ _), Ex.then_ok (need_ok (by kernel_rfl) _ _ _), Ex.then_ok (need_ok (by rfl) _ _ _)]
  rw [if_pos (by decide)]
  unfold return2
  show (nextE 4 (at3 D 4 3)).then _ _ = _
  rw [e2, e3]
  unfold nextE
  rw [show ((4 : Nat) : Int) = 4 from rfl, Ex.then_ok (load_word (s := ⟨D, R'⟩) hst (a := 40696) (by decide) (by decide)), Ex.then_ok (load_word (s := ⟨D, R'⟩) hst (a := 40700) (by decide) (by decide)), r3, r4]
  rw [Ex.then_ok (need_ok (by rfl) 13 0 _), Ex.then_ok (desc35 (s := ⟨D, R'⟩) hT hcs _ _), Ex.then_ok (need_ok (by kernel_rfl) _ _ _), Ex.then_ok (need_ok (by rfl) _ _ _), Ex.then_ok (need_ok (by show decide (P ≤ 4294967295) = true; simp; omega) 13 0 _)]
  rfl
 refine ⟨(((D.left 4 P 27 F d27).setSeg 2 d35).setR 4 36864).dropSegs 3, ?_, ?_⟩
 ·unfold triedE returnE
  rw [Ex.then_ok (need_ok (by rfl) 13 0 _)]
  rw [show (4 : Int).toNat = 4 from rfl, key]
 ·have hpop : poppedE D F = F := by rw [eF]; exact popped_back (k := k) hG hring (by rw [hfl, eF])
  have hdr : (flatSeg 35 2 3).drops 3 = false := by kernel_rfl
  refine cells_ext (fun i => ?_) rfl hpop (fun i hi => ?_) ?_ ?_ ?_ ?_ ?_ ?_ ?_ ?_ rfl ?_ ?_
  ·show (if i = 4 then 36864 else D.r i) = (if i = 4 then 36864 else regs i)
   by_cases h : i = 4
   ·rw [if_pos h, if_pos h]
   ·rw [if_neg h, if_neg h, eD]
    show (if i = 4 then 40684 else if i = 4 then 40704 else if i = 4 then 36864 else regs i) = regs i
    rw [if_neg h, if_neg h, if_neg h]
  ·have hb : (backC 3 regs F P).seg i = (if i = 1 then flatSeg 27 10 3 else flatSeg 35 2 3) := rfl
   rw [hb]
   rw [eD]
   rcases (show i = 0 ∨ i = 1 ∨ i = 2 ∨ i = 3 ∨ i = 4 ∨ i = 5 by omega) with rfl | rfl | rfl | rfl | rfl | rfl
   ·exact drop_keep _ 0 hdr
   ·exact drop_keep _ 1 (by kernel_rfl)
   ·exact drop_keep _ 2 hdr
   ·exact drop_keep _ 3 hdr
   ·exact drop_keep _ 4 hdr
   ·exact drop_keep _ 5 hdr
  all_goals (rw [eD]; rfl)
end
end Go.Proofs.YtmpcafdgkbpneaaGreat

/- except's law Back: registers and flags, plainly. -/
namespace Go.Proofs.YtmpcafdgkbpneaaGreat
open Go.RowKit
set_option linter.unusedVariables false
theorem back_ext (ring : Nat) (F P : Nat) (r r' : Nat → Nat) (h : r = r') : ({ startC ring with r := r, flags := F, eip := P } : CpuS) = { startC ring with r := r', flags := F, eip := P } := by rw [h]
theorem back_C0 (g : Nat → Nat) (G P : Nat) : ({ ({ ((startC 0).setAll g).setR 4 36864 with eip := P } : CpuS) with flags := G ||| 2 } : CpuS) = backC 0 (fun i => if i < 8 then g i else 0) (G ||| 2) P := by
 refine back_ext 0 _ _ _ _ (funext fun j => ?_)
 show (if j = 4 then 36864 else if j < 8 then g j else if j = 4 then 36864 else 0) = (if j = 4 then 36864 else if j < 8 then g j else 0)
 by_cases h : j = 4
 ·rw [if_pos h, if_pos h]
 ·rw [if_neg h, if_neg h, if_neg h]
theorem back_C3 (g : Nat → Nat) (G P : Nat) : ({ ({ ({ ((startC 3).setAll g).setR 4 36864 with eip := P } : CpuS) with flags := G ||| 2 } : CpuS) with flags := (G ||| 2) ||| 512 } : CpuS) = backC 3 (fun i => if i < 8 then g i else 0) ((G ||| 512) ||| 2) P := by
 rw [show (G ||| 2) ||| 512 = (G ||| 512) ||| 2 by rw [Nat.or_assoc, Nat.or_assoc]; rfl]
 refine back_ext 3 _ _ _ _ (funext fun j => ?_)
 show (if j = 4 then 36864 else if j < 8 then g j else if j = 4 then 36864 else 0) = (if j = 4 then 36864 else if j < 8 then g j else 0)
 by_cases h : j = 4
 ·rw [if_pos h, if_pos h]
 ·rw [if_neg h, if_neg h, if_neg h]
theorem bclr_lt (f m : Nat) (h : f < 4294967296) : clr f m < 4294967296 := Nat.lt_of_le_of_lt Nat.and_le_left h
theorem inFlags_lt {F k : Nat} (h : F < 4294967296) : inFlags F k < 4294967296 := by
 unfold inFlags
 split
 ·exact bclr_lt _ _ (bclr_lt _ _ h)
 ·exact bclr_lt _ _ h
theorem and_zero_of (x K M : Nat) (h : K &&& M = 0) : (x &&& K) &&& M = 0 := by rw [Nat.and_assoc, h, Nat.and_zero]
theorem in_bits (F k : Nat) (h : F < 4294967296) : (k = 14 → bits .and .u32 (inFlags F k : Int) 512 = 0) ∧ bits .and .u32 (inFlags F k : Int) 256 = 0 := by
 have hl := inFlags_lt (k := k) h
 have e1 : bits .and .u32 (inFlags F k : Int) 512 = ((inFlags F k &&& 512 : Nat) : Int) := u32_and_nat (inFlags F k) 512 hl (by decide)
 have e2 : bits .and .u32 (inFlags F k : Int) 256 = ((inFlags F k &&& 256 : Nat) : Int) := u32_and_nat (inFlags F k) 256 hl (by decide)
 rw [e1, e2]
 constructor
 ·intro hk
  rw [show inFlags F k = clr (clr F 16640) 512 from if_pos hk]
  unfold clr
  rw [and_zero_of _ _ _ (by decide)]
  rfl
 ·have e : inFlags F k &&& 256 = 0 := by
    unfold inFlags clr
    split
    ·rw [Nat.and_assoc F]
     exact and_zero_of _ _ _ (by decide)
    ·exact and_zero_of _ _ _ (by decide)
  rw [e]
  rfl
def kdOf (trap : Bool) : Nat := if trap then 61184 else 60928
def kOf (trap : Bool) : Nat := if trap then 15 else 14
theorem kd_facts (trap : Bool) : kdOf trap / 256 % 32 = kOf trap ∧ (kOf trap = 14 ∨ kOf trap = 15) ∧ kdOf trap / 32768 % 2 = 1 ∧ kdOf trap / 8192 % 4 = 3 ∧ kdOf trap < 65536 := by cases trap <;> decide
theorem kd_tabs (trap : Bool) : Tabs (startR (kdOf trap)) (kdOf trap) := by
 cases trap
 ·exact tabsEE
 ·exact tabsEF
end Go.Proofs.YtmpcafdgkbpneaaGreat

/- vmem: a processor's state that came in. -/
namespace Go.Proofs.YtmpcafdgkbpneaaGreat
open Go.WideShapes Go.RowKit
set_option linter.unusedVariables false

theorem cell_n32 {c : Value} (h : ∃ n, c = .int .u32 n ∧ IntKind.u32.min ≤ n ∧ n ≤ IntKind.u32.max) : ∃ n : Nat, c = .int .u32 (n : Nat) ∧ n < 4294967296 := by
 obtain ⟨o, rfl, l, u⟩ := h
 have l2 : 0 ≤ o := l
 have u2 : o < 4294967296 := Int.lt_of_le_of_lt u (by decide)
 exact ⟨o.toNat, by rw [Int.toNat_of_nonneg l2], by omega⟩
end Go.Proofs.YtmpcafdgkbpneaaGreat

