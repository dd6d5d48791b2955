/- except's laws: what their walks lean on. -/
import Derived.Test.YtmpcafdgkbpneaaGreatS40
namespace Go.Proofs.YtmpcafdgkbpneaaGreat
open Go.RowKit Go.MapKept
set_option linter.unusedVariables false

section
variable {w0 w w' w1 w2 : World} {A0 : Nat → Prop} {os os' : List Ob} {o : Ob}
/-- Objects made behind others. -/
theorem Hp.join (T : Hp w0 A0 w1 os) (U : Hp w1 (fun _ => False) w2 os') : Hp w0 A0 w2 (os' ++ os) := by
  have hb := U.below
  obtain ⟨A, a, M⟩ := U
  have h := T.new hb (o := Ob.all os') (A := A) a fun k hk => (M.2 k hk).elim False.elim id
  exact (Hp.rot h).open_
/-- An environment out of what Both made, beside a block of one's own. -/
theorem Hp.started2 {eb vb bb pm : Nat} {C : CpuS} {R : RS} {B : Bs} (T : Hp w0 A0 w (Ob.box eb (.cells (envCells C vb bb) 40) :: oVk vb ⟨8, pm⟩ 0 :: oBus bb pm B :: o :: os)) (hC : C.ok) (hw : Wide R) (hR : B.R = R) : Hp w0 A0 w [oEn eb vb bb ⟨8, pm⟩ 0 ⟨C, R⟩, o] := by
  subst hR
  have T1 := T.front 2 rfl
  obtain ⟨x, T2⟩ : ∃ x : Nat × Nat × Nat × Nat × Nat, Hp w0 A0 w (Ob.all (busObs bb x.1 x.2.1 x.2.2.1 x.2.2.2.1 pm x.2.2.2.2 B) :: Ob.box eb (.cells (envCells C vb bb) 40) :: oVk vb ⟨8, pm⟩ 0 :: o :: os) := by
    obtain ⟨A, ⟨A1, A2, ⟨x, a1⟩, a2, d, e⟩, M⟩ := T1
    exact ⟨x, A, ⟨A1, A2, a1, a2, d, e⟩, M⟩
  have T3 := (((T2.open_.front 5 rfl).front 8 rfl).front 8 rfl).toEn (pl := ⟨8, pm⟩) hC hw
  exact Hp.left (l1 := [oEn eb vb bb ⟨8, pm⟩ 0 ⟨C, B.R⟩, o]) ((T3.front 7 rfl).front 1 rfl)
end
section
variable {w : World} {b : Nat} {C : CpuS}
theorem regs_range (h : w.rangeAt b 0 C.cells) : w.rangeAt b 0 (regCells C.r) := fun j v hv => by
  refine h j v ?_
  have hl : j < (regCells C.r).length := (List.getElem?_eq_some_iff.1 hv).1
  unfold CpuS.cells
  rw [List.append_assoc, List.append_assoc, List.append_assoc, List.append_assoc, List.getElem?_append_left hl, hv]
theorem segs_range (h : w.rangeAt b 0 C.cells) : w.rangeAt b 10 (segCells C.seg) := fun j v hv => by
  have h1 := h (10 + j) v ?_
  · rw [Nat.zero_add] at h1
    exact h1
  · have hl : j < (segCells C.seg).length := (List.getElem?_eq_some_iff.1 hv).1
    have e : C.cells = (regCells C.r ++ [.int .u32 (C.eip : Nat), .int .u32 (C.flags : Nat)]) ++ (segCells C.seg ++ ([.int .u32 (C.cr0 : Nat), .int .u32 (C.cr2 : Nat), .int .u32 (C.cr3 : Nat), .int .u32 (C.gb : Nat), .int .u16 (C.gl : Nat), .int .u32 (C.ib : Nat), .int .u16 (C.il : Nat)] ++ (C.tr.cells ++ [.bool C.shadow, .bool C.halted, .bool C.dead]))) := by
      unfold CpuS.cells segCells
      simp only [List.append_assoc]
    rw [e, List.getElem?_append_right (by show 10 ≤ 10 + j; omega), show 10 + j - (regCells C.r ++ [Value.int .u32 (C.eip : Nat), .int .u32 (C.flags : Nat)]).length = j by show 10 + j - 10 = j; omega, List.getElem?_append_left hl, hv]
end
/-- A number that is not negative. -/
def vecN (v : Int) : Int := if v < 0 then -(v + 1) else v
theorem vecN_pos (v : Int) : 0 ≤ vecN v := by unfold vecN; split <;> omega
theorem vecN_mod (v : Int) (k : Nat) (hk : 0 < k) : ∃ n : Nat, n < k ∧ vecN v % (k : Int) = (n : Int) := by
  have h1 := Int.emod_nonneg (vecN v) (show (k : Int) ≠ 0 by omega)
  have h2 := Int.emod_lt_of_pos (vecN v) (show (0 : Int) < k by omega)
  exact ⟨(vecN v % (k : Int)).toNat, by omega, by omega⟩
theorem c_dead (C : CpuS) : C.cells.toArray.setIfInBounds 82 (.bool false) = ({ C with dead := false } : CpuS).cells.toArray := by kernel_rfl
theorem env_fl (C : CpuS) (vb bb f : Nat) : (envCells C vb bb).setIfInBounds 9 (.int .u32 (f : Nat)) = envCells { C with flags := f } vb bb := by kernel_rfl
theorem env_ip (C : CpuS) (vb bb f : Nat) : (envCells C vb bb).setIfInBounds 8 (.int .u32 (f : Nat)) = envCells { C with eip := f } vb bb := by kernel_rfl
/-- All registers are set. -/
def CpuS.setAll (C : CpuS) (g : Nat → Nat) : CpuS := { C with r := fun j => if j < 8 then g j else C.r j }
theorem env_r (C : CpuS) (vb bb v : Nat) : (envCells C vb bb).setIfInBounds 4 (.int .u32 (v : Nat)) = envCells (C.setR 4 v) vb bb := by kernel_rfl
def setsR (w : World) (b : Nat) (g : Nat → Nat) : World := ((((((((w.setCell ⟨b, 0, none⟩ (.int .u32 (g 0 : Nat))).setCell ⟨b, 1, none⟩ (.int .u32 (g 1 : Nat))).setCell ⟨b, 2, none⟩ (.int .u32 (g 2 : Nat))).setCell ⟨b, 3, none⟩ (.int .u32 (g 3 : Nat))).setCell ⟨b, 4, none⟩ (.int .u32 (g 4 : Nat))).setCell ⟨b, 5, none⟩ (.int .u32 (g 5 : Nat))).setCell ⟨b, 6, none⟩ (.int .u32 (g 6 : Nat))).setCell ⟨b, 7, none⟩ (.int .u32 (g 7 : Nat)))
theorem env_all (C : CpuS) (vb bb : Nat) (g : Nat → Nat) : ((((((((envCells C vb bb).setIfInBounds 0 (.int .u32 (g 0 : Nat))).setIfInBounds 1 (.int .u32 (g 1 : Nat))).setIfInBounds 2 (.int .u32 (g 2 : Nat))).setIfInBounds 3 (.int .u32 (g 3 : Nat))).setIfInBounds 4 (.int .u32 (g 4 : Nat))).setIfInBounds 5 (.int .u32 (g 5 : Nat))).setIfInBounds 6 (.int .u32 (g 6 : Nat))).setIfInBounds 7 (.int .u32 (g 7 : Nat)) = envCells (C.setAll g) vb bb := by kernel_rfl
theorem Hp.setAll {w0 w : World} {A0 : Nat → Prop} {os : List Ob} {eb vb bb n : Nat} {pl : Pl} {s : Es} (T : Hp w0 A0 w os) (i : Nat) (hi : os[i]? = some (oEn eb vb bb pl n s)) (g : Nat → Nat) (hg : ∀ i, g i < 4294967296) : Hp w0 A0 (setsR w eb g) (os.set i (oEn eb vb bb pl n ⟨s.C.setAll g, s.R⟩)) := by
  obtain ⟨A, H, E, e⟩ := T.get i hi
  have h := E.cok
  refine T.setCpu i hi ?_ ⟨fun j => ?_, h.eip, h.flags, h.seg, h.cr0, h.cr2, h.cr3, h.gb, h.gl, h.ib, h.il, h.tr⟩ ((((((((Keeps.refl (· = eb) w).setOne 0 _).setOne 1 _).setOne 2 _).setOne 3 _).setOne 4 _).setOne 5 _).setOne 6 _ |>.setOne 7 _)
  · unfold setsR
    rw [← env_all]
    simp only [heap_set_map, E.box, Option.map_some]
    rfl
  · show (if j < 8 then g j else s.C.r j) < _
    split
    · exact hg j
    · exact h.r j
theorem regs_info (r : Nat → Nat) : (Tryz.prog.info? 26).map (·.size) = some (regCells r).length := by kernel_rfl
theorem segs_info (f : Nat → SegR) : (Tryz.prog.info? 32).map (·.size) = some (segCells f).length := by kernel_rfl
end Go.Proofs.YtmpcafdgkbpneaaGreat
