/- Steps of a proof: ExZ, ExClass, ExCr, together. -/
import Derived.Test.YtmpcafdgkbpneaaGreatS25
import Derived.Test.YtmpcafdgkbpneaaGreatS16
/- except: Return and Fault. -/
set_option maxHeartbeats 4000000
set_option maxRecDepth 20000
namespace Go.Proofs.YtmpcafdgkbpneaaGreat
open Go.RowKit Go.MapKept
set_option linter.unusedVariables false
attribute [local go_sem ↓] Go.wp_at_zero Go.wp_at_succ

section
variable {w W w' w0 : World} {A A0 : Nat → Prop} {os bs loc : List Ob} {eb vb bb : Nat} {pl : Pl} {n n' N : Nat} {s s1 s' : Es}
theorem return_x (sz : Int) (hN : (n + 40) * 12 ≤ 140737488355328) :
    Acts 18 #[.pointer (some ⟨eb, 0, none⟩), .int .i64 sz] (oEn eb vb bb pl n s) (triedE (returnE sz) s).1.val (oEn eb vb bb pl (n + 40) (triedE (returnE sz) s).2) := by
 rintro w A T
 obtain ⟨be, hbe⟩ : ∃ be, be = w.heap.size := ⟨_, rfl⟩
 have hc := tried_x (eb := eb) (vb := vb) (bb := bb) (pl := pl) (n := n) (n' := n + 40) (s := s) (bs := retB eb be (be + 1) sz) (m := returnE sz) (enters_own (f := 47) Tryz.func47 (by kernel_rfl) rfl) (retF_x hN)
 obtain ⟨⟨f, s1⟩, hr⟩ : ∃ r, triedE (returnE sz) s = r := ⟨_, rfl⟩
 rw [hr] at hc ⊢
 have HC := Lib.hid hc
 have T0 := Hp.solo T
 have T5 := ((T0.make (.cells #[.pointer (some ⟨eb, 0, none⟩)] 24)).make (.cells #[.int .i64 sz] 3)).make (.cells #[.int .i64 0, .int .i64 0, .int .u32 0] 42)
 simp only [World.size_alloc] at T5
 rw [← hbe] at T5
 have HT := Lib.hid (show Hp w A (((w.alloc (.cells #[.pointer (some ⟨eb, 0, none⟩)] 24)).alloc (.cells #[.int .i64 sz] 3)).alloc (.cells #[.int .i64 0, .int .i64 0, .int .u32 0] 42)) [oEs eb vb bb pl n (retB eb be (be + 1) sz) s, fBox (be + 1 + 1) ⟨0, 0, 0⟩] from Hp.pack (l1 := oEn eb vb bb pl n s :: retB eb be (be + 1) sz) (l2 := [fBox (be + 1 + 1) ⟨0, 0, 0⟩]) T5 (fun A h => h))
 clear T T0 T5 hc hr
 have hmf : ∀ (fn : Fn) (first cap : Array Value) (w : World), (Instr.makeFunc fn first cap).run Tryz.prog w = .ok (.func fn first cap) w := fun _ _ _ _ => rfl
 go_enter Tryz.func18, Tryz.ntmps18
 go_upto_region 1 with (fail)
 rw [← hbe]
 change Code.wp _ _ _ _ (((w.alloc (.cells #[.pointer (some ⟨eb, 0, none⟩)] 24)).alloc (.cells #[.int .i64 sz] 3)).alloc (.cells #[.int .i64 0, .int .i64 0, .int .u32 0] 42))
 clear hbe
 generalize ((w.alloc (.cells #[.pointer (some ⟨eb, 0, none⟩)] 24)).alloc (.cells #[.int .i64 sz] 3)).alloc (.cells #[.int .i64 0, .int .i64 0, .int .u32 0] 42) = w2 at *
 generalize be + 1 + 1 = g at *
 obtain ⟨B, hB⟩ := HT.out.inside 0 rfl
 obtain ⟨b0, bf, bl⟩ := hB.lone 1 rfl
 clear hB
 go_wp2_with fail
 refine (HT.out.act 0 rfl HC.out).mono ?_
 rintro e w3 ⟨rfl, T3⟩
 have HT3 := Lib.hid (show Hp w A w3 [oEs eb vb bb pl (n + 40) (retB eb be (be + 1) sz) s1, fBox g ⟨0, 0, 0⟩] from T3)
 clear T3 HT HC b0 bf bl
 obtain ⟨z0, z1, z2, zf, zl⟩ := HT3.out.fbox (f := ⟨0, 0, 0⟩) 1 rfl
 have HT4 := Lib.hid (HT3.out.fset 1 rfl f)
 unfold FaultS.val
 go_wp2_with fail
 refine bodyPost_ret (v := f.val) (fres rfl rfl _ (HT4.out.box 1 rfl)) rfl ⟨rfl, ?_⟩
 have h := Hp.open_ HT4.out
 exact h.first
theorem return_none (sz : Int) (w : World) :
    Calls Tryz.prog 18 #[.pointer none, .int .i64 sz] w fun e w' => e = .returned (.agg #[.int .i64 13, .int .i64 0, .int .u32 0]) ∧ Below w.heap.size w w' := by
 have hmf : ∀ (fn : Fn) (first cap : Array Value) (w : World), (Instr.makeFunc fn first cap).run Tryz.prog w = .ok (.func fn first cap) w := fun _ _ _ _ => rfl
 obtain ⟨W, hW⟩ : ∃ W, W = ((w.alloc (.cells #[.pointer none] 24)).alloc (.cells #[.int .i64 sz] 3)).alloc (.cells #[.int .i64 0, .int .i64 0, .int .u32 0] 42) := ⟨_, rfl⟩
 have hb : Below w.heap.size w W := by
  rw [hW]
  exact below_on (below_on (below_on (Below.refl _ w) _) _) _
 have hz : W.heap[w.heap.size + 1 + 1]? = some (.cells #[.int .i64 0, .int .i64 0, .int .u32 0] 42) := by
  have h := heap_new ((w.alloc (.cells #[.pointer none] 24)).alloc (.cells #[.int .i64 sz] 3)) (.cells #[.int .i64 0, .int .i64 0, .int .u32 0] 42)
  simp only [World.size_alloc] at h
  rw [hW]
  exact h
 have HB := Lib.hid (And.intro hb hz)
 go_enter Tryz.func18, Tryz.ntmps18
 go_wp2_with fail
 change Calls _ _ _ (((w.alloc (.cells #[.pointer none] 24)).alloc (.cells #[.int .i64 sz] 3)).alloc (.cells #[.int .i64 0, .int .i64 0, .int .u32 0] 42)) _
 rw [← hW]
 clear hb hz hW
 refine (tried_none _ _).mono ?_
 rintro e w2 ⟨rfl, hb⟩
 have h2 : w2.heap[w.heap.size + 1 + 1]? = some (.cells #[.int .i64 0, .int .i64 0, .int .u32 0] 42) := by rw [hb.block _ (heap_lt HB.out.2)]; exact HB.out.2
 have HB2 := Lib.hid (HB.out.1.trans (hb.mono HB.out.1.size))
 generalize hg : w.heap.size + 1 + 1 = g at *
 have hgl : w.heap.size ≤ g := by omega
 have z0 := cell_at (k := 0) h2
 have z1 := cell_at (k := 1) h2
 have z2 := cell_at (k := 2) h2
 simp at z0 z1 z2
 have zf : ∀ k, w2.frozen? ⟨g, k, none⟩ = false := fun k => free_at h2
 have zl := heap_lt h2
 have HS := Lib.hid (block_sets3 (T := 42) h2 (.int .i64 13) (.int .i64 0) (.int .u32 0))
 clear h2 hb
 go_wp2_with fail
 refine bodyPost_ret (v := badF.val) (fres rfl rfl _ HS.out) rfl ⟨rfl, ?_⟩
 exact ((HB2.out.setCell hgl _).setCell hgl _).setCell hgl _
theorem return_bare (sz : Int) (w : World) (eb : Nat) (h : w.cell? ⟨eb, 83, none⟩ = some (.pointer none)) (hl : eb < w.heap.size) :
    Calls Tryz.prog 18 #[.pointer (some ⟨eb, 0, none⟩), .int .i64 sz] w fun e w' => e = .returned (.agg #[.int .i64 13, .int .i64 0, .int .u32 0]) ∧ Below w.heap.size w w' := by
 have hmf : ∀ (fn : Fn) (first cap : Array Value) (w : World), (Instr.makeFunc fn first cap).run Tryz.prog w = .ok (.func fn first cap) w := fun _ _ _ _ => rfl
 obtain ⟨W, hW⟩ : ∃ W, W = ((w.alloc (.cells #[.pointer (some ⟨eb, 0, none⟩)] 24)).alloc (.cells #[.int .i64 sz] 3)).alloc (.cells #[.int .i64 0, .int .i64 0, .int .u32 0] 42) := ⟨_, rfl⟩
 have hb : Below w.heap.size w W := by
  rw [hW]
  exact below_on (below_on (below_on (Below.refl _ w) _) _) _
 have hz : W.heap[w.heap.size + 1 + 1]? = some (.cells #[.int .i64 0, .int .i64 0, .int .u32 0] 42) := by
  have h := heap_new ((w.alloc (.cells #[.pointer (some ⟨eb, 0, none⟩)] 24)).alloc (.cells #[.int .i64 sz] 3)) (.cells #[.int .i64 0, .int .i64 0, .int .u32 0] 42)
  simp only [World.size_alloc] at h
  rw [hW]
  exact h
 have HC := Lib.hid (show W.cell? ⟨eb, 83, none⟩ = some (.pointer none) ∧ eb < W.heap.size from ⟨by rw [cell_heap (hb.block eb hl)]; exact h, Nat.lt_of_lt_of_le hl hb.size⟩)
 have HB := Lib.hid (And.intro hb hz)
 go_enter Tryz.func18, Tryz.ntmps18
 go_wp2_with fail
 change Calls _ _ _ (((w.alloc (.cells #[.pointer (some ⟨eb, 0, none⟩)] 24)).alloc (.cells #[.int .i64 sz] 3)).alloc (.cells #[.int .i64 0, .int .i64 0, .int .u32 0] 42)) _
 rw [← hW]
 clear hb hz hW
 refine (tried_bare _ _ _ HC.out.1 HC.out.2).mono ?_
 rintro e w2 ⟨rfl, hb⟩
 have h2 : w2.heap[w.heap.size + 1 + 1]? = some (.cells #[.int .i64 0, .int .i64 0, .int .u32 0] 42) := by rw [hb.block _ (heap_lt HB.out.2)]; exact HB.out.2
 have HB2 := Lib.hid (HB.out.1.trans (hb.mono HB.out.1.size))
 generalize hg : w.heap.size + 1 + 1 = g at *
 have hgl : w.heap.size ≤ g := by omega
 have z0 := cell_at (k := 0) h2
 have z1 := cell_at (k := 1) h2
 have z2 := cell_at (k := 2) h2
 simp at z0 z1 z2
 have zf : ∀ k, w2.frozen? ⟨g, k, none⟩ = false := fun k => free_at h2
 have zl := heap_lt h2
 have HS := Lib.hid (block_sets3 (T := 42) h2 (.int .i64 13) (.int .i64 0) (.int .u32 0))
 clear h2 hb
 go_wp2_with fail
 refine bodyPost_ret (v := badF.val) (fres rfl rfl _ HS.out) rfl ⟨rfl, ?_⟩
 exact ((HB2.out.setCell hgl _).setCell hgl _).setCell hgl _
end
end Go.Proofs.YtmpcafdgkbpneaaGreat

/- except: the vectors' kinds. -/
namespace Go.Proofs.YtmpcafdgkbpneaaGreat
open Go.RowKit Go.MapKept
set_option linter.unusedVariables false
attribute [local go_sem ↓] Go.wp_at_zero Go.wp_at_succ

def clsN (j : Nat) : Nat := if j = 0 ∨ (10 ≤ j ∧ j ≤ 13) then 1 else if j = 14 then 2 else 0
def clsT (k : Nat) : Array Value := ((List.range 32).map fun j => Value.int .i64 ((if j < k then clsN j else 0 : Nat) : Int)).toArray
theorem clsT_get (k j : Nat) (h : j < 32) : (clsT k)[j]? = some (.int .i64 ((if j < k then clsN j else 0 : Nat) : Int)) := by
 unfold clsT
 rw [List.getElem?_toArray, List.getElem?_map, List.getElem?_range h]
 rfl
theorem clsT_size (k : Nat) : (clsT k).size = 32 := by simp [clsT]
theorem clsT_set (k : Nat) (h : k < 32) : (clsT k).setIfInBounds k (.int .i64 (clsN k : Nat)) = clsT (k + 1) := by
 apply Array.ext_getElem?
 intro i
 rw [Array.getElem?_setIfInBounds]
 by_cases hi : i < 32
 ·rw [clsT_get k i hi, clsT_get (k + 1) i hi, clsT_size]
  by_cases he : k = i
  ·subst he
   rw [if_pos rfl, if_pos hi, if_pos (by omega)]
  ·rw [if_neg he]
   by_cases hl : i < k
   ·rw [if_pos hl, if_pos (by omega)]
   ·rw [if_neg hl, if_neg (by omega)]
 ·rw [if_neg (by omega), Array.getElem?_eq_none (by rw [clsT_size]; omega), Array.getElem?_eq_none (by rw [clsT_size]; omega)]
theorem clsT_skip (k : Nat) (h : clsN k = 0) : clsT (k + 1) = clsT k := by
 unfold clsT
 congr 1
 apply List.map_congr_left
 intro j _
 by_cases he : j = k
 ·subst he
  rw [if_pos (by omega), if_neg (by omega), h]
 ·by_cases hl : j < k
  ·rw [if_pos (by omega), if_pos hl]
  ·rw [if_neg (by omega), if_neg hl]
theorem cls_store {wr : World} {g k : Nat} (hb : wr.heap[g]? = some (.cells (clsT k) 189)) (h : k < 32) : (wr.setCell ⟨g, k, none⟩ (.int .i64 (clsN k : Nat))).heap[g]? = some (.cells (clsT (k + 1)) 189) := by
 rw [heap_set_map, hb, ← clsT_set k h]; rfl
theorem cls_store2 {wr : World} {g k : Nat} {u : Value} (hb : wr.heap[g]? = some (.cells (clsT k) 189)) (h : k < 32) : ((wr.setCell ⟨g, k, none⟩ u).setCell ⟨g, k, none⟩ (.int .i64 (clsN k : Nat))).heap[g]? = some (.cells (clsT (k + 1)) 189) := by
 rw [heap_set_map, heap_set_map, hb, ← clsT_set k h]
 have e : (clsT k).set! k u = (clsT k).setIfInBounds k u := rfl
 simp [Option.map, putObj]
theorem info32 : (Tryz.prog.info? 189).map (·.size) = some 32 := by kernel_rfl
theorem classes_any (w : World) : Calls Tryz.prog 102 #[] w fun e w' => e = .returned (.agg (clsT 32)) ∧ Below w.heap.size w w' := by
 have h0 : ((w.alloc (.cells (clsT 0) 189)).alloc (.cells (clsT 0) 189)).heap[w.heap.size + 1]? = some (.cells (clsT 0) 189) := by
  have h := heap_new (w.alloc (.cells (clsT 0) 189)) (.cells (clsT 0) 189)
  rw [World.size_alloc] at h
  exact h
 have h1 : ((w.alloc (.cells (clsT 0) 189)).alloc (.cells (clsT 0) 189)).heap[w.heap.size]? = some (.cells (clsT 0) 189) := heap_alloc_lt (heap_new w _)
 have HH := Lib.hid (And.intro h0 h1)
 have HB : Below w.heap.size w ((w.alloc (.cells (clsT 0) 189)).alloc (.cells (clsT 0) 189)) := below_on (below_on (Below.refl _ w) _) _
 clear h0 h1
 have HBB := Lib.hid HB
 clear HB
 go_enter Tryz.func102, Tryz.ntmps102
 go_wp2_with fail
 change Code.wp _ _ _ _ ((w.alloc (.cells (clsT 0) 189)).alloc (.cells (clsT 0) 189))
 generalize (w.alloc (.cells (clsT 0) 189)).alloc (.cells (clsT 0) 189) = w1 at *
 generalize hg : w.heap.size + 1 = g at *
 have hgl : w.heap.size ≤ g := by omega
 have hge : w.heap.size ≠ g := by omega
 go_loopw [3] (fun i wr => ∃ k : Nat, k ≤ 32 ∧ i = .int .i64 k ∧ wr.heap[g]? = some (.cells (clsT k) 189) ∧ wr.heap[w.heap.size]? = some (.cells (clsT 0) 189) ∧ Below w.heap.size w wr) (fun i _ => 32 - (intOf i).toNat)
 case atStart => exact ⟨0, by omega, rfl, HH.out.1, HH.out.2, HBB.out⟩
 case round =>
  obtain ⟨k, hk, rfl, hw, hz, hb⟩ := hrel
  have HW := Lib.hid hw
  have HZ := Lib.hid hz
  have HB := Lib.hid hb
  clear hz hb
  by_cases hks : k < 32
  ·have hc : wr.cell? ⟨g, k, none⟩ = some (.int .i64 0) := by
     rw [cell_at hw, clsT_get k k hks, if_neg (by omega)]; rfl
   have hf : wr.frozen? ⟨g, k, none⟩ = false := free_at hw
   have hl := heap_lt hw
   clear hw
   by_cases h14 : k = 14
   ·subst h14
    have HO := Lib.hid ((((Keeps.refl (· = g) wr).setOne 14 (.int .i64 1)).setOne 14 (.int .i64 2)).block w.heap.size (heap_lt HZ.out) hge)
    go_wp2_with fail
    exact ⟨⟨15, by omega, rfl, cls_store2 (k := 14) HW.out hks, HO.out.trans HZ.out, (HB.out.setCell hgl _).setCell hgl _⟩, by decide⟩
   ·by_cases h1 : k = 0 ∨ (10 ≤ k ∧ k ≤ 13)
    ·have HO := Lib.hid (((Keeps.refl (· = g) wr).setOne k (.int .i64 1)).block w.heap.size (heap_lt HZ.out) hge)
     rcases (show k = 0 ∨ k = 10 ∨ k = 11 ∨ k = 12 ∨ k = 13 by omega) with rfl | rfl | rfl | rfl | rfl
     ·clear h1 h14
      go_wp2_with fail
      exact ⟨⟨1, by omega, rfl, cls_store (k := 0) HW.out hks, HO.out.trans HZ.out, HB.out.setCell hgl _⟩, by decide⟩
     ·clear h1 h14
      go_wp2_with fail
      exact ⟨⟨11, by omega, rfl, cls_store (k := 10) HW.out hks, HO.out.trans HZ.out, HB.out.setCell hgl _⟩, by decide⟩
     ·clear h1 h14
      go_wp2_with fail
      exact ⟨⟨12, by omega, rfl, cls_store (k := 11) HW.out hks, HO.out.trans HZ.out, HB.out.setCell hgl _⟩, by decide⟩
     ·clear h1 h14
      go_wp2_with fail
      exact ⟨⟨13, by omega, rfl, cls_store (k := 12) HW.out hks, HO.out.trans HZ.out, HB.out.setCell hgl _⟩, by decide⟩
     ·clear h1 h14
      go_wp2_with fail
      exact ⟨⟨14, by omega, rfl, cls_store (k := 13) HW.out hks, HO.out.trans HZ.out, HB.out.setCell hgl _⟩, by decide⟩
    ·have b0 : ((k : Int) == 0) = false := beq_eq_false_iff_ne.2 (by omega)
     have b1 : ((k : Int) == 10) = false := beq_eq_false_iff_ne.2 (by omega)
     have b2 : ((k : Int) == 11) = false := beq_eq_false_iff_ne.2 (by omega)
     have b3 : ((k : Int) == 12) = false := beq_eq_false_iff_ne.2 (by omega)
     have b4 : ((k : Int) == 13) = false := beq_eq_false_iff_ne.2 (by omega)
     have b5 : ((k : Int) == 14) = false := beq_eq_false_iff_ne.2 (by omega)
     have hc0 : clsN k = 0 := by unfold clsN; rw [if_neg h1, if_neg h14]
     have HC := Lib.hid (show wr.heap[g]? = some (.cells (clsT (k + 1)) 189) by rw [clsT_skip k hc0]; exact HW.out)
     clear h1 h14 hc0
     go_wp2_with fail
     exact ⟨⟨k + 1, by omega, by go_num, HC.out, HZ.out, HB.out⟩, by show 32 - ((k : Int) + 1).toNat < 32 - ((k : Int)).toNat; omega⟩
  ·have hk32 : k = 32 := by omega
   subst hk32
   clear hw hks
   go_wp2_with (first | (refine wpList_load_row rfl _ _ rfl g rfl _ _ _ _ HW.out Tryz.underlying189 rfl info32 ?_) | (refine wpList_store_row rfl _ _ _ rfl w.heap.size (clsT 32) rfl rfl _ _ HZ.out info32 rfl (by kernel_rfl) ?_))
   refine bodyPost_ret (v := .agg (clsT 32)) (results_cell_row rfl _ _ w.heap.size _ _ _ _ rfl (setRow_heap wr _ _ _ _ _ HZ.out) Tryz.underlying189 rfl info32) rfl ⟨rfl, ?_⟩
   exact below_setRow HB.out (Nat.le_refl _) _
theorem index_own (k : Nat) (hk : k < 32) (cs : Array Value) (v : Value) (h : cs[k]? = some v) (w : World) : (Instr.index 189 (.agg cs) (.int .i64 (k : Nat))).run Tryz.prog w = .ok v w := by
 have h1 : (0 : Int) ≤ (k : Int) ∧ (k : Int) < ((32 : Nat) : Int) := by omega
 have hs : (sizeOf 3).run Tryz.prog w = .ok 1 w := by kernel_rfl
 have ha : (isAgg 3).run Tryz.prog w = .ok false w := by kernel_rfl
 simp only [Instr.index, asIntOf, Sem.run_bind, Sem.run_pure, Result.andThen_ok, run_underlying Tryz.underlying189]
 rw [if_pos h1]
 simp only [Sem.run_bind, hs, Result.andThen_ok, part, ha, Int.toNat_natCast, Nat.mul_one]
 simp [h, go_sem]
theorem clsE_eq (k : Nat) (h : k < 32) : clsE (k : Int) = ((clsN k : Nat) : Int) := by
 unfold clsE clsN
 by_cases h0 : k = 0 ∨ (10 ≤ k ∧ k ≤ 13)
 ·rw [if_pos h0, if_pos (by omega)]; rfl
 ·rw [if_neg h0, if_neg (by omega)]
  by_cases h1 : k = 14
  ·rw [if_pos h1, if_pos (by omega)]; rfl
  ·rw [if_neg h1, if_neg (by omega)]; rfl
theorem clsE_far (v : Int) (h : v < 0 ∨ 31 < v) : clsE v = 0 := by
 unfold clsE
 rw [if_neg (by omega), if_neg (by omega)]
theorem class_x (v : Int) (w : World) : Calls Tryz.prog 44 #[.int .i64 v] w fun e w' => e = .returned (.int .i64 (clsE v)) ∧ Below w.heap.size w w' := by
 by_cases h0 : v < 0
 ·rw [clsE_far v (.inl h0)]
  go_enter Tryz.func44, Tryz.ntmps44
  go_wp2_with fail
  go_ret
  exact ⟨rfl, Below.refl _ _⟩
 ·by_cases h1 : 31 < v
  ·rw [clsE_far v (.inr h1)]
   go_enter Tryz.func44, Tryz.ntmps44
   go_wp2_with fail
   go_ret
   exact ⟨rfl, Below.refl _ _⟩
  ·obtain ⟨k, rfl⟩ : ∃ k : Nat, v = (k : Int) := ⟨v.toNat, by omega⟩
   have hk : k < 32 := by omega
   rw [clsE_eq k hk]
   have hg := clsT_get 32 k hk
   rw [if_pos hk] at hg
   have HG := Lib.hid hg
   clear hg
   go_enter Tryz.func44, Tryz.ntmps44
   go_wp2_with fail
   refine (classes_any _).mono ?_
   rintro e w2 ⟨rfl, hb⟩
   have hi := fun w => index_own k hk (clsT 32) _ HG.out w
   have HB := Lib.hid hb
   clear hb
   go_wp2_with fail
   go_ret
   exact ⟨rfl, HB.out⟩
end Go.Proofs.YtmpcafdgkbpneaaGreat

/- except, in plain words: a fault's place; a delivery's faults. -/
namespace Go.Proofs.YtmpcafdgkbpneaaGreat
open Go.RowKit
set_option linter.unusedVariables false

theorem pg_at {R R' : RS} {C : CpuS} {lin size : Nat} {wr us : Bool} {cd : Int} {a : Nat} (hl : lin < 4294967296) (h : pg R C lin size wr us = (.fault cd a, R')) : a < 4294967296 := by
 have hl2 : lin2 lin size < 4294967296 := Nat.mod_lt _ (by decide)
 obtain ⟨⟨x, c1, R1⟩, e1⟩ : ∃ r, find R C.cr3 lin wr us C.wp = r := ⟨_, rfl⟩
 obtain ⟨⟨y, c2, R2⟩, e2⟩ : ∃ r, find R1 C.cr3 (lin2 lin size) wr us C.wp = r := ⟨_, rfl⟩
 unfold pg at h
 rw [e1] at h
 split at h
 ·by_cases h0 : 0 ≤ c1
  ·rw [pg1_fault h0] at h
   cases h; exact hl
  ·by_cases hs : size = first lin size
   ·rw [pg1_one h0 hs] at h; cases h
   ·rw [pg1_two h0 hs, e2] at h
    by_cases h3 : 0 ≤ c2
    ·rw [pg2_fault h3] at h; cases h; exact hl2
    ·rw [pg2_ok h3] at h; cases h
 ·cases h
theorem sg_at {R R' : RS} {C : CpuS} {seg : Int} {off : Nat} {size : Int} {wr : Bool} {a b : Int} {c : Nat} (h : sg R C seg off size wr = (.no a b c, R')) : c < 4294967296 := by
 unfold sg at h
 split at h
 ·unfold sg2 at h
  split at h
  ·obtain ⟨h1, _⟩ := Prod.mk.inj h
   rename_i hh
   cases hp : pg R C (((C.seg seg.toNat).base + off) % 4294967296) size.toNat wr C.user with
   | mk p R2 =>
    rw [hp] at h1
    cases p with
    | ok s => cases h1
    | fault cd x => cases h1; exact pg_at (Nat.mod_lt _ (by decide)) hp
  ·obtain ⟨h1, _⟩ := Prod.mk.inj h
   injection h1 with _ _ h1
   rw [← h1]; decide
 ·obtain ⟨h1, _⟩ := Prod.mk.inj h
  cases h1
  decide
def CrB {α : Type} (m : Ex α) : Prop := ∀ s f s1, m s = (.error f, s1) → f.cr2 < 4294967296
section
variable {α β : Type}
theorem CrB.bind {m : Ex α} {k : α → Ex β} (h : CrB m) (g : ∀ a, CrB (k a)) : CrB (m.then k) := fun s f s2 e => by
 rcases hm : m s with ⟨x | a, s1⟩
 ·rw [Ex.then_no hm] at e
  cases e
  exact h _ _ _ hm
 ·rw [Ex.then_ok hm] at e
  exact g a _ _ _ e
theorem CrB.here {f : Es → Ex α} (h : ∀ s, CrB (f s)) : CrB (Ex.at f) := fun s x s1 e => h s s x s1 e
theorem CrB.ret (a : α) : CrB (Ex.ret a) := fun s f s1 e => by cases e
theorem CrB.upd (f : Es → Es) : CrB (Ex.upd f) := fun s x s1 e => by cases e
theorem CrB.need (p : Bool) (v c : Int) : CrB (needE p v c) := fun s f s1 e => by
 cases p
 ·rw [need_no rfl] at e; cases e; exact (by decide : (0 : Nat) < 4294967296)
 ·rw [need_ok rfl] at e; cases e
theorem CrB.sys (a : Nat) (ha : a < 4294967296) (size : Int) : CrB (sysE a size) := fun s f s1 e => by
 obtain ⟨h1, h2, h3⟩ := told_no (g := ldOf (sy s.R s.C a size false)) e
 rw [h1]
 unfold sy
 split
 ·cases hp : pg s.R s.C a size.toNat false false with
  | mk p R2 =>
   cases p with
   | ok sp => exact (by decide : (0 : Nat) < 4294967296)
   | fault cd x => exact pg_at ha hp
 ·exact (by decide : (0 : Nat) < 4294967296)
theorem CrB.store (seg : Int) (off : Nat) (size : Int) (v : Nat) : CrB (storeE seg off size v) := fun s f s1 e => by
 obtain ⟨h1, h2, h3⟩ := told_no (g := ((0, (st s.R s.C seg off size v).1), (st s.R s.C seg off size v).2)) e
 rw [h1]
 unfold st
 cases hp : sg s.R s.C seg off size true with
 | mk p R2 =>
  cases p with
  | ok sp => exact (by decide : (0 : Nat) < 4294967296)
  | no a b c => exact sg_at hp
theorem CrB.push (v : Nat) : CrB (pushE v) := by
 unfold pushE
 exact CrB.here fun s => (CrB.store _ _ _ _).bind fun _ => CrB.upd _
theorem CrB.when {p : Bool} {m : Ex Unit} (h : CrB m) : CrB (whenE p m) := by
 cases p
 ·exact CrB.ret ()
 ·exact h
theorem CrB.desc (sel : Nat) (vec cd : Int) : CrB (descE sel vec cd) := by
 unfold descE
 exact CrB.here fun s => (CrB.need _ _ _).bind fun _ => (CrB.sys _ (Nat.mod_lt _ (by decide)) _).bind fun _ => (CrB.sys _ (Nat.mod_lt _ (by decide)) _).bind fun _ => CrB.ret _
theorem CrB.inner (rn : Nat) (x : Int) : CrB (innerE rn x) := by
 unfold innerE
 exact CrB.here fun s => (CrB.need _ _ _).bind fun _ => (CrB.sys _ (Nat.mod_lt _ (by decide)) _).bind fun _ => (CrB.sys _ (Nat.mod_lt _ (by decide)) _).bind fun _ => (CrB.need _ _ _).bind fun _ => (CrB.desc _ _ _).bind fun _ => (CrB.need _ _ _).bind fun _ => (CrB.need _ _ _).bind fun _ => CrB.upd _
theorem CrB.pushes (old : CpuS) (other : Bool) (num : Int) : CrB (pushesE old other num) := by
 unfold pushesE
 exact (CrB.when ((CrB.push _).bind fun _ => CrB.push _)).bind fun _ => (CrB.push _).bind fun _ => (CrB.push _).bind fun _ => (CrB.push _).bind fun _ => CrB.when (CrB.push _)
theorem CrB.enter (vec num : Int) (soft : Bool) : CrB (enterE vec num soft) := by
 unfold enterE
 refine (CrB.need _ _ _).bind fun _ => ?_
 unfold enter1
 refine CrB.here fun s => (CrB.need _ _ _).bind fun _ => (CrB.sys _ (Nat.mod_lt _ (by decide)) _).bind fun lo => (CrB.sys _ (Nat.mod_lt _ (by decide)) _).bind fun hi => ?_
 unfold enter2
 refine CrB.here fun s => (CrB.need _ _ _).bind fun _ => (CrB.need _ _ _).bind fun _ => (CrB.need _ _ _).bind fun _ => (CrB.desc _ _ _).bind fun d => (CrB.need _ _ _).bind fun _ => (CrB.need _ _ _).bind fun _ => (CrB.need _ _ _).bind fun _ => ?_
 unfold enter3
 exact CrB.here fun s => (CrB.when (CrB.inner _ _)).bind fun _ => (CrB.upd _).bind fun _ => (CrB.pushes _ _ _).bind fun _ => CrB.upd _
theorem tried_cr (vec num : Int) (soft : Bool) (s : Es) : (triedE (enterE vec num soft) s).1.cr2 < 4294967296 := by
 unfold triedE
 rcases h : enterE vec num soft s with ⟨f | _, s1⟩
 ·exact CrB.enter vec num soft _ _ _ h
 ·exact (by decide : (0 : Nat) < 4294967296)
end
end Go.Proofs.YtmpcafdgkbpneaaGreat

