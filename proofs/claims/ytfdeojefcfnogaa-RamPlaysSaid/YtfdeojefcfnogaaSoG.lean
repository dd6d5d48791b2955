/- slices.Sort at uint32: the whole; it keeps its word up to any length. -/
import Derived.Test.YtfdeojefcfnogaaSoA
import Derived.Test.YtfdeojefcfnogaaSoB
import Derived.Test.YtfdeojefcfnogaaSoC
import Derived.Test.YtfdeojefcfnogaaSoD
import Derived.Test.YtfdeojefcfnogaaSoE
import Derived.Test.YtfdeojefcfnogaaSoF
import Derived.Test.YtfdeojefcfnogaaRamH
import Derived.Sort.AssemblyPlain
namespace Go.Proofs.Ytfdeojefcfnogaa
open Go.Sort Go.RowKit Go.Proofs
set_option linter.unusedVariables false

theorem calleesU : CalleesU where
  ins := Sv.insertionSort_int
  brk := Sv.breakPatterns_int
  piv := Sv.choosePivot_int
  par := Sv.partialInsertionSort_int
  peq := Sv.partitionEqualOrdered_int
  prt := Sv.partitionOrdered_int
theorem plainU : Plain13 where
  swo := swo_ltInt
  ins := insertionSort_holds
  par := partialInsertionSort_holds
  prt := partition_holds _
  peq := partitionEqual_holds _
  pdq := pdq_sorts _
theorem pdqU : pdqWalkP := fun blk off cap a b limit d w hH hb hab hbd hsz hl hB =>
  Sv.pdqsort_int calleesU plainU (b - a + 1) blk off cap a b limit d w (by omega) hH hb hab hbd hsz hl hB
theorem holds_row {w : World} {g : Nat} {c : Nat} {L : List Nat} {B : Nat} {E : TypeId} (hr : w.ownsRow B E 1 (.slice (some ⟨g, 0, none⟩) L.length c) L.length (wordsL L)) :
    ∃ cap cur, w.heap[g]? = some (.cells cur E (0, 0)) ∧ B ≤ g ∧ L.length ≤ cap ∧ c = cap ∧ cap ≤ maxLen ∧ cur.size = cap ∧ cur.toList.take L.length = wordsL L := by
  rcases hr.2 with ⟨h, _⟩ | ⟨g', cap, cur, h, hB, hb, h1, h2, h3, h4⟩
  · cases h
  · cases h
    exact ⟨c, cur, hb, hB, h1, rfl, h2, by rw [h3, Nat.mul_one], by rw [Nat.mul_one] at h4; exact h4⟩
theorem take_get {cur : Array Value} {L : List Nat} (h : cur.toList.take L.length = wordsL L) (j : Nat) (hj : j < L.length) : cur[j]? = some (.int .u32 (L[j]! : Nat)) := by
  have e : (cur.toList.take L.length)[j]? = (wordsL L)[j]? := by rw [h]
  rw [List.getElem?_take, if_pos hj] at e
  rw [← Array.getElem?_toList, e]
  unfold wordsL
  rw [List.getElem?_map, List.getElem?_eq_getElem hj, getElem!_pos L j hj]
  rfl
theorem sorts_all (N : Nat) (hN : N < 4611686018427387904) : Sorts N := by
  intro L wr B g c hL h0 hx hnd hr
  obtain ⟨cap, cur, hb, hB, h1, rfl, h2, h3, h4⟩ := holds_row hr
  have hlt := heap_lt hb
  let zs : List Int := L.map fun (x : Nat) => (x : Int)
  have hzl : zs.length = L.length := by simp [zs]
  have hH : Holds (Value.int .u32) wr g 0 zs.toArray := by
    intro j hj
    have hj' : j < L.length := by simpa [hzl] using hj
    refine ⟨?_, free_at hb⟩
    rw [Nat.zero_add, cell_at hb, take_get h4 j hj']
    congr 2
    rw [getElem!_pos zs.toArray j (by simpa using hj), getElem!_pos L j hj']
    simp [zs]
  have hS := Sv.Sort_int pdqU g 0 c zs.toArray wr hH hlt (by simpa [hzl] using Nat.lt_of_le_of_lt hL hN)
  have e1 : zs.toArray.size = L.length := by simp [hzl]
  rw [e1] at hS
  refine hS.mono ?_
  rintro e w' ⟨rfl, n, os, rfl⟩
  have hsort : (Sort.sort ltInt zs.toArray).toList = zs.mergeSort (fun x y => decide (x ≤ y)) := sortInt zs
  have hperm : (zs.mergeSort (fun x y => decide (x ≤ y))).Perm zs := List.mergeSort_perm _ _
  let L' : List Nat := (zs.mergeSort (fun x y => decide (x ≤ y))).map Int.toNat
  have hback : zs.map Int.toNat = L := by
    show (L.map fun (x : Nat) => (x : Int)).map Int.toNat = L
    rw [List.map_map]
    conv => rhs; rw [← List.map_id L]
    exact List.map_congr_left fun x _ => by simp
  have hP : L'.Perm L := by
    have := hperm.map Int.toNat
    rwa [hback] at this
  have hlen : L'.length = L.length := hP.length_eq
  have hle : (zs.mergeSort (fun x y => decide (x ≤ y))).Pairwise (fun x y => decide (x ≤ y) = true) :=
    List.pairwise_mergeSort (fun a b c h1 h2 => by simp at *; omega) (fun a b => by simp; omega) zs
  have hpos : ∀ x ∈ zs.mergeSort (fun x y => decide (x ≤ y)), 0 ≤ x := fun x hx => by
    have := hperm.mem_iff.1 hx
    obtain ⟨y, _, rfl⟩ := List.mem_map.1 this
    omega
  have hs1 : L'.Pairwise (· ≤ ·) := by
    show ((zs.mergeSort (fun x y => decide (x ≤ y))).map Int.toNat).Pairwise (· ≤ ·)
    rw [List.pairwise_map]
    exact hle.imp fun {a b} h => by simp at h; omega
  have hnd' : L'.Nodup := hP.nodup_iff.2 hnd
  have hs2 : L'.Pairwise (· < ·) := by
    have := hs1.and hnd'
    exact this.imp fun {a b} h => by have := h.1; have := h.2; omega
  have hsz : (Sort.sort ltInt zs.toArray).size = L.length := by
    rw [← Array.length_toList, hsort, List.length_mergeSort, hzl]
  have hcell : ∀ j, j < L.length → (Sort.sort ltInt zs.toArray)[j]! = ((L'[j]! : Nat) : Int) := fun j hj => by
    have e2 : (Sort.sort ltInt zs.toArray)[j]? = (zs.mergeSort (fun x y => decide (x ≤ y)))[j]? := by rw [← Array.getElem?_toList, hsort]
    have hjm : j < (zs.mergeSort (fun x y => decide (x ≤ y))).length := by rw [List.length_mergeSort, hzl]; exact hj
    rw [getElem!_pos _ j (by omega), getElem!_pos L' j (by omega)]
    have e3 := e2
    rw [Array.getElem?_eq_getElem (by omega), List.getElem?_eq_getElem hjm] at e3
    have e4 : L'[j] = ((zs.mergeSort (fun x y => decide (x ≤ y)))[j]'hjm).toNat := by simp [L']
    rw [Option.some.inj e3, e4]
    have := hpos _ (List.getElem_mem hjm)
    omega
  have hb' : (grow (putRow (Value.int .u32) (Sort.ahead wr n) g 0 (Sort.sort ltInt zs.toArray)) os).heap[g]? = some (.cells (putCells (Value.int .u32) 0 (Sort.sort ltInt zs.toArray) cur) 23 (0, 0)) := by
    rw [heap_grow_old _ _ (by simpa using hlt)]
    show (wr.heap.modify g _)[g]? = _
    rw [Array.getElem?_modify, if_pos rfl, hb]
    rfl
  refine ⟨rfl, L', hP, hs2, ⟨?_, .inr ⟨g, c, _, ?_, hB, hb', by omega, h2, ?_, ?_⟩⟩, ?_⟩
  · rw [wordsL_len, Nat.mul_one]
  · rw [hlen]
  · rw [Nat.mul_one]; unfold putCells; rw [Array.size_mapIdx]; exact h3
  · rw [Nat.mul_one, hlen]
    refine List.ext_getElem? fun j => ?_
    rw [List.getElem?_take]
    by_cases hj : j < L.length
    · rw [if_pos hj, Array.getElem?_toList]
      unfold putCells wordsL
      rw [Array.getElem?_mapIdx, take_get h4 j hj, Option.map_some, if_pos ⟨Nat.zero_le _, by omega⟩, Nat.sub_zero, hcell j hj, List.getElem?_map, List.getElem?_eq_getElem (by omega), getElem!_pos L' j (by omega)]
      rfl
    · rw [if_neg hj, List.getElem?_eq_none (by rw [wordsL_len]; omega)]
  · refine ⟨rfl, rfl, rfl, by simp, fun k hk hne => ?_⟩
    rw [heap_grow_old _ _ (by simpa using hk)]
    show (wr.heap.modify g _)[k]? = _
    rw [Array.getElem?_modify, if_neg (fun e => hne e.symm)]
end Go.Proofs.Ytfdeojefcfnogaa
