/- segment: Pack. -/
import Derived.Test.YtjcgpkokndckfaaSegRef
import Derived.Test.YtjcgpkokndckfaaSegPackA

import Derived.Maps.RangeRun
import Derived.Laws.IdiomRangeMap
namespace Go.Proofs.Ytjcgpkokndckfaa
open Go.RowKit
set_option linter.unusedVariables false

theorem upd_fresh (X : World) (n : Nat) (hn : n = X.heap.size) (es : Array MapEntry) (ck : Nat) (a : Int) (v : Value) (hnew : Instr.findNow (.int .i64) (.int .i64 a) es.toList 0 = some none) :
    (Instr.mapUpdate 45 (.map (some n)) (.int .i64 a) v).run Try.prog (X.alloc (.map es ck)) = .ok () (X.alloc (.map (es.push ⟨.int .i64 a, v, ck⟩) (ck + 1))) := by
  subst hn
  have hb : (X.alloc (.map es ck)).heap[X.heap.size]? = some (.map es ck) := (MapKept.heap_alloc X _).1
  have hset : ({ (X.alloc (.map es ck)) with heap := (X.alloc (.map es ck)).heap.setIfInBounds X.heap.size (.map (es.push ⟨.int .i64 a, v, ck⟩) (ck + 1)) } : World) = X.alloc (.map (es.push ⟨.int .i64 a, v, ck⟩) (ck + 1)) := by
    simp only [World.alloc]
    congr 1
    apply Array.ext_getElem?
    intro k
    rw [Array.getElem?_setIfInBounds]
    simp only [Array.getElem?_push, Array.size_push]
    by_cases h : X.heap.size = k
    · subst h; simp
    · simp [h, Ne.symm h]
  have hk : Try.prog.underlying 3 = some (.int .i64) := Try.underlying3
  simp [Instr.mapUpdate, go_sem, MapKept.run_getObj_map hb, MapKept.run_checkKey hk (show MapKept.IsKey (.int .i64) (.int .i64 a) from rfl), MapKept.run_findKey hk hnew, MapKept.run_setObj_map _ hb]
  exact hset

def es3 (s r g : Bool) : Array MapEntry := #[⟨.int .i64 12, .bool (!s), 0⟩, ⟨.int .i64 15, .bool r, 1⟩, ⟨.int .i64 22, .bool g, 2⟩]
def lcnt (seen : Array Nat) : Nat := (if seen.contains 0 then 0 else 1) + (if seen.contains 1 then 0 else 1) + (if seen.contains 2 then 0 else 1)
def itLeft (w : World) (r : Nat) : Nat := match w.heap[r]? with | some (.mapIter _ _ seen _) => lcnt seen | _ => 0

theorem left_mem {s r g : Bool} {seen : Array Nat} {e : MapEntry} (h : e ∈ (leftOf (es3 s r g) seen).toList) :
    (e = ⟨.int .i64 12, .bool (!s), 0⟩ ∧ seen.contains 0 = false) ∨ (e = ⟨.int .i64 15, .bool r, 1⟩ ∧ seen.contains 1 = false) ∨ (e = ⟨.int .i64 22, .bool g, 2⟩ ∧ seen.contains 2 = false) := by
  unfold leftOf es3 at h
  simp only [Array.mem_toList_iff, Array.mem_filter, List.mem_toArray, List.mem_cons, List.not_mem_nil, or_false] at h
  obtain ⟨rfl | rfl | rfl, h2⟩ := h
  · exact .inl ⟨rfl, by simpa using h2⟩
  · exact .inr (.inl ⟨rfl, by simpa using h2⟩)
  · exact .inr (.inr ⟨rfl, by simpa using h2⟩)
theorem left_none {s r g : Bool} {seen : Array Nat} (h : (leftOf (es3 s r g) seen).size = 0) : seen.contains 0 = true ∧ seen.contains 1 = true ∧ seen.contains 2 = true := by
  have he : leftOf (es3 s r g) seen = #[] := Array.eq_empty_of_size_eq_zero h
  unfold leftOf at he
  rw [Array.filter_eq_empty_iff] at he
  refine ⟨?_, ?_, ?_⟩
  · have := he ⟨.int .i64 12, .bool (!s), 0⟩ (by simp [es3]); simpa using this
  · have := he ⟨.int .i64 15, .bool r, 1⟩ (by simp [es3]); simpa using this
  · have := he ⟨.int .i64 22, .bool g, 2⟩ (by simp [es3]); simpa using this
theorem push_contains (seen : Array Nat) (j k : Nat) : (seen.push j).contains k = (seen.contains k || k == j) := by
  rw [Bool.eq_iff_iff]; simp [Array.mem_push]

/-- The block of the range's iterator. -/
def It (w : World) (bm r : Nat) (s p g : Bool) (seen : Array Nat) : Prop := w.heap[bm]? = some (.map (es3 s p g) 3) ∧ w.heap[r]? = some (.mapIter (some bm) 3 seen 3)

theorem It.step {w : World} {bm r : Nat} {s p g : Bool} {seen : Array Nat} (h : It w bm r s p g seen) (hne : bm ≠ r) (ty : TypeId) :
    (seen.contains 0 = true ∧ seen.contains 1 = true ∧ seen.contains 2 = true ∧ (Instr.next (.pointer (some ⟨r, 0, none⟩)) false ty).run Try.prog w = .ok (.tuple #[.bool false]) w) ∨
    ∃ (j : Nat) (k : Int) (v : Bool) (w1 : World), ((j = 0 ∧ k = 12 ∧ (!s) = v) ∨ (j = 1 ∧ k = 15 ∧ p = v) ∨ (j = 2 ∧ k = 22 ∧ g = v)) ∧ seen.contains j = false ∧
      (Instr.next (.pointer (some ⟨r, 0, none⟩)) false ty).run Try.prog w = .ok (.tuple #[.bool true, .int .i64 k, .bool v]) w1 ∧
      (Instr.entry (.pointer (some ⟨r, 0, none⟩))).run Try.prog w1 = .ok (.tuple #[.int .i64 k, .bool v]) w1 ∧ It w1 bm r s p g (seen.push j) ∧
      w1.os = w.os ∧ w1.tape = w.tape ∧ w1.output = w.output ∧ w1.heap.size = w.heap.size ∧ ∀ i, i ≠ r → w1.heap[i]? = w.heap[i]? := by
  obtain ⟨hb, hr⟩ := h
  have hold : ∀ x ∈ (es3 s p g).toList, x.born < 3 := by intro x hx; simp [es3] at hx; rcases hx with rfl | rfl | rfl <;> simp
  have hnd : ((es3 s p g).toList.map (·.born)).Nodup := by simp [es3]
  rcases run_next_at (P := Try.prog) w ty r bm 3 3 seen (es3 s p g) 3 hr hb hold (Nat.le_refl _) with ⟨h0, hrun⟩ | ⟨e, he, w1, hw1, hrun⟩
  · obtain ⟨a, b, c⟩ := left_none h0
    exact .inl ⟨a, b, c, hrun⟩
  · right
    have hw1h : w1.heap = w.heap := by rcases hw1 with rfl | rfl <;> rfl
    have hw1o : w1.os = w.os ∧ w1.tape = w.tape ∧ w1.output = w.output := by rcases hw1 with rfl | rfl <;> exact ⟨rfl, rfl, rfl⟩
    have hlt : r < w.heap.size := (Array.getElem?_eq_some_iff.1 hr).1
    have key : ∀ o : Obj, (ChangeMaps.setBlock w1 r o).heap[r]? = some o ∧ (∀ i, i ≠ r → (ChangeMaps.setBlock w1 r o).heap[i]? = w.heap[i]?) ∧ (ChangeMaps.setBlock w1 r o).heap.size = w.heap.size := fun o => by
      unfold ChangeMaps.setBlock
      simp only [hw1h]
      exact ⟨by simp [hlt], fun i hi => by simp [Ne.symm hi], by simp⟩
    have hmem : e ∈ (es3 s p g).toList := by unfold leftOf at he; simp at he ⊢; exact he.1
    obtain ⟨kr, ko, ks⟩ := key (.mapIter (some bm) 3 (seen.push e.born) 3)
    have hen := run_entry_at (P := Try.prog) (ChangeMaps.setBlock w1 r (.mapIter (some bm) 3 (seen.push e.born) 3)) r bm 3 seen (es3 s p g) 3 e kr (by rw [ko bm hne]; exact hb) hmem hnd
    rcases left_mem he with ⟨rfl, hc⟩ | ⟨rfl, hc⟩ | ⟨rfl, hc⟩
    · exact ⟨0, 12, _, _, .inl ⟨rfl, rfl, rfl⟩, hc, hrun, hen, ⟨by rw [ko bm hne]; exact hb, kr⟩, hw1o.1, hw1o.2.1, hw1o.2.2, ks, ko⟩
    · exact ⟨1, 15, _, _, .inr (.inl ⟨rfl, rfl, rfl⟩), hc, hrun, hen, ⟨by rw [ko bm hne]; exact hb, kr⟩, hw1o.1, hw1o.2.1, hw1o.2.2, ks, ko⟩
    · exact ⟨2, 22, _, _, .inr (.inr ⟨rfl, rfl, rfl⟩), hc, hrun, hen, ⟨by rw [ko bm hne]; exact hb, kr⟩, hw1o.1, hw1o.2.1, hw1o.2.2, ks, ko⟩

/-- Has an entry come? (Hidden from the walk.) -/
def hs (seen : Array Nat) (k : Nat) : Bool := seen.contains k
theorem pc_same (seen : Array Nat) (j : Nat) : hs (seen.push j) j = true := by simp [hs]
theorem pc_other (seen : Array Nat) (k j : Nat) (h : k ≠ j) : hs (seen.push j) k = hs seen k := by unfold hs; rw [push_contains]; simp [h]
theorem heap_new2 (w : World) (o : Obj) : (w.alloc o).heap[w.heap.size]? = some o := (MapKept.heap_alloc w o).1
theorem heap_alloc_lt2 {w : World} {b : Nat} {o o' : Obj} (h : w.heap[b]? = some o) : (w.alloc o').heap[b]? = some o := by
  rw [Below.heap_alloc _ _ _ ((Array.getElem?_eq_some_iff.1 h).1)]; exact h

set_option maxHeartbeats 4000000 in
theorem pack_small (b l t p : Int) (s r g : Bool) (w : World) (b0 : 0 ≤ b) (b1 : b < 4294967296) (l0 : 0 ≤ l) (l1 : l < 4294967296) (t0 : 0 ≤ t) (t1 : t < 16) (p0 : 0 ≤ p) (p1 : p < 4) (hl : l ≤ 1048575) :
    Calls Try.prog 12 #[.agg #[.int .u32 b, .int .u32 l, .int .i64 t, .bool s, .int .i64 p, .bool r, .bool g]] w fun e w' =>
      e = .returned (.tuple #[.int .u32 (loF b l), .int .u32 (hiF 0 b l t p (mk true (!s) 4096) (mk true r 32768) (mk true g 4194304)), .int .i64 0]) ∧ Below w.heap.size w w' := by
  have hmm := @run_makeMap Try.prog
  have u0 := fun (X : World) (n : Nat) (hn : n = X.heap.size) v => upd_fresh X n hn #[] 0 12 v rfl
  have u1 := fun (X : World) (n : Nat) (hn : n = X.heap.size) v0 v => upd_fresh X n hn #[⟨.int .i64 12, v0, 0⟩] 1 15 v rfl
  have u2 := fun (X : World) (n : Nat) (hn : n = X.heap.size) v0 v1 v => upd_fresh X n hn #[⟨.int .i64 12, v0, 0⟩, ⟨.int .i64 15, v1, 1⟩] 2 22 v rfl
  simp only [List.push_toArray, List.nil_append, List.cons_append, Nat.reduceAdd] at u0 u1 u2
  have ur := fun (X : World) (n : Nat) (hn : n = X.heap.size) (es : Array MapEntry) (ck : Nat) => run_range_map (P := Try.prog) (X.alloc (.map es ck)) 45 3 4 n es ck Try.underlying45 (by subst hn; exact (MapKept.heap_alloc X _).1)
  have hraw := Lib.hid (hiA_raw 0 b l t p (by omega) b0 b1 (by omega) (by omega) t0 t1 p0 p1)
  have hlo := Lib.hid (lo_raw b l b0 b1 (by omega) (by omega))
  go_enter Try.func12, Try.ntmps12
  go_wp2_with fail
  rw [hraw.out]
  clear hmm u0 u1 u2 ur
  go_loopw [3] (fun h wr => ∃ seen : Array Nat, h = .int .u32 (hiF 0 b l t p (mk (hs seen 0) (!s) 4096) (mk (hs seen 1) r 32768) (mk (hs seen 2) g 4194304)) ∧ It wr (w.heap.size + 1) (w.heap.size + 2) s r g seen ∧
      wr.heap[w.heap.size]? = some (.cells #[.int .u32 b, .int .u32 l, .int .i64 t, .bool s, .int .i64 p, .bool r, .bool g] 25) ∧ Below w.heap.size w wr) (fun _ wr => itLeft wr (w.heap.size + 2))
  case atStart =>
    refine ⟨#[], ?_, ⟨?_, ?_⟩, ?_, by go_grown⟩
    · simp [mk, hiF, hs]
    · have h := heap_alloc_lt2 (o' := .mapIter (some (w.heap.size + 1)) 3 #[] 3) (heap_new2 (w.alloc (.cells #[.int .u32 b, .int .u32 l, .int .i64 t, .bool s, .int .i64 p, .bool r, .bool g] 25)) (.map (es3 s r g) 3))
      simp only [World.size_alloc] at h
      exact h
    · have h := heap_new2 ((w.alloc (.cells #[.int .u32 b, .int .u32 l, .int .i64 t, .bool s, .int .i64 p, .bool r, .bool g] 25)).alloc (.map (es3 s r g) 3)) (.mapIter (some (w.heap.size + 1)) 3 #[] 3)
      simp only [World.size_alloc] at h
      exact h
    · exact heap_alloc_lt2 (heap_alloc_lt2 (heap_new2 w _))
  case round =>
    obtain ⟨seen, rfl, hI, hbox, hB⟩ := hrel
    have hm0 := mk_cases (hs seen 0) (!s) 4096
    have hm1 := mk_cases (hs seen 1) r 32768
    have hm2 := mk_cases (hs seen 2) g 4194304
    rcases hI.step (by omega) 0 with ⟨c0, c1, c2, hrun⟩ | ⟨j, k, v, w1, hj, hc, hrun, hen, hI1, ho, ht, hou, hs1, hk1⟩
    · rw [show hs seen 0 = true from c0, show hs seen 1 = true from c1, show hs seen 2 = true from c2]
      have kb : wr.cell? ⟨w.heap.size, 0, none⟩ = some (.int .u32 b) := by simp [World.cell?, hbox]
      have kl : wr.cell? ⟨w.heap.size, 1, none⟩ = some (.int .u32 l) := by simp [World.cell?, hbox]
      clear hI hbox hm0 hm1 hm2 c0 c1 c2
      go_wp2_with fail
      go_ret3
      exact ⟨by rw [← hlo.out]; rfl, hB⟩
    · have hB1 : Below w.heap.size w w1 := hB.trans ⟨ho, ht, hou, by omega, fun i hi => hk1 i (by omega)⟩
      have hbox1 : w1.heap[w.heap.size]? = some (.cells #[.int .u32 b, .int .u32 l, .int .i64 t, .bool s, .int .i64 p, .bool r, .bool g] 25) := by rw [hk1 _ (by omega)]; exact hbox
      have hmeas : itLeft w1 (w.heap.size + 2) < itLeft wr (w.heap.size + 2) := by
        unfold itLeft
        rw [hI.2, hI1.2]
        simp only [lcnt, push_contains]
        rcases hj with ⟨rfl, _, _⟩ | ⟨rfl, _, _⟩ | ⟨rfl, _, _⟩ <;> cases h0 : seen.contains 0 <;> cases h1 : seen.contains 1 <;> cases h2 : seen.contains 2 <;> simp_all
      have HM := Lib.hid hmeas
      have HI1 := Lib.hid hI1
      have HBX := Lib.hid hbox1
      clear hI hbox hI1 hbox1 ho ht hou hs1 hk1 hmeas
      rcases hj with ⟨rfl, rfl, rfl⟩ | ⟨rfl, rfl, rfl⟩ | ⟨rfl, rfl, rfl⟩
      · have ho := or12 0 b l t p _ _ (by omega) b0 b1 (by omega) (by omega) t0 t1 p0 p1 hm1 hm2
        have hz : mk (hs seen 0) (!s) 4096 = 0 := by rw [show hs seen _ = false from hc]; rfl
        have HO := Lib.hid ho
        rw [hz]
        clear hm0 hm1 hm2 ho
        have HC := Lib.hid hc
        clear hc hz
        cases s
        all_goals
          simp only [Bool.not_true, Bool.not_false] at hrun hen
          go_wp2_with fail
          go_roundw
          case rel => exact ⟨seen.push 0, by rw [pc_same, pc_other seen 1 0 (by decide), pc_other seen 2 0 (by decide)]; first | rfl | exact congrArg (Value.int .u32) HO.out, HI1.out, HBX.out, hB1⟩
          case measure => exact HM.out
      · have ho := or15 0 b l t p _ _ (by omega) b0 b1 (by omega) (by omega) t0 t1 p0 p1 hm0 hm2
        have hz : mk (hs seen 1) r 32768 = 0 := by rw [show hs seen _ = false from hc]; rfl
        have HO := Lib.hid ho
        rw [hz]
        clear hm0 hm1 hm2 ho
        have HC := Lib.hid hc
        clear hc hz
        cases r
        all_goals
          go_wp2_with fail
          go_roundw
          case rel => exact ⟨seen.push 1, by rw [pc_same, pc_other seen 0 1 (by decide), pc_other seen 2 1 (by decide)]; first | rfl | exact congrArg (Value.int .u32) HO.out, HI1.out, HBX.out, hB1⟩
          case measure => exact HM.out
      · have ho := or22 0 b l t p _ _ (by omega) b0 b1 (by omega) (by omega) t0 t1 p0 p1 hm0 hm1
        have hz : mk (hs seen 2) g 4194304 = 0 := by rw [show hs seen _ = false from hc]; rfl
        have HO := Lib.hid ho
        rw [hz]
        clear hm0 hm1 hm2 ho
        have HC := Lib.hid hc
        clear hc hz
        cases g
        all_goals
          go_wp2_with fail
          go_roundw
          case rel => exact ⟨seen.push 2, by rw [pc_same, pc_other seen 0 2 (by decide), pc_other seen 1 2 (by decide)]; first | rfl | exact congrArg (Value.int .u32) HO.out, HI1.out, HBX.out, hB1⟩
          case measure => exact HM.out

set_option maxHeartbeats 4000000 in
theorem pack_big (b l t p : Int) (s r g : Bool) (w : World) (b0 : 0 ≤ b) (b1 : b < 4294967296) (l0 : 0 ≤ l) (l1 : l < 4294967296) (t0 : 0 ≤ t) (t1 : t < 16) (p0 : 0 ≤ p) (p1 : p < 4) (hl : 1048575 < l) (hm : l % 4096 = 4095) :
    Calls Try.prog 12 #[.agg #[.int .u32 b, .int .u32 l, .int .i64 t, .bool s, .int .i64 p, .bool r, .bool g]] w fun e w' =>
      e = .returned (.tuple #[.int .u32 (loF b (l / 4096)), .int .u32 (hiF 8388608 b (l / 4096) t p (mk true (!s) 4096) (mk true r 32768) (mk true g 4194304)), .int .i64 0]) ∧ Below w.heap.size w w' := by
  have hmm := @run_makeMap Try.prog
  have u0 := fun (X : World) (n : Nat) (hn : n = X.heap.size) v => upd_fresh X n hn #[] 0 12 v rfl
  have u1 := fun (X : World) (n : Nat) (hn : n = X.heap.size) v0 v => upd_fresh X n hn #[⟨.int .i64 12, v0, 0⟩] 1 15 v rfl
  have u2 := fun (X : World) (n : Nat) (hn : n = X.heap.size) v0 v1 v => upd_fresh X n hn #[⟨.int .i64 12, v0, 0⟩, ⟨.int .i64 15, v1, 1⟩] 2 22 v rfl
  simp only [List.push_toArray, List.nil_append, List.cons_append, Nat.reduceAdd] at u0 u1 u2
  have ur := fun (X : World) (n : Nat) (hn : n = X.heap.size) (es : Array MapEntry) (ck : Nat) => run_range_map (P := Try.prog) (X.alloc (.map es ck)) 45 3 4 n es ck Try.underlying45 (by subst hn; exact (MapKept.heap_alloc X _).1)
  have hand : bits BinOp.and IntKind.u32 l 4095 = 4095 := by
    have := and_field_u32 l 4095 0 12 l0 l1 (by decide) (by decide) (by decide)
    simp only [Nat.pow_zero, Nat.reducePow] at this
    omega
  clear hm
  have hraw := Lib.hid (hiA_raw 8388608 b (l / 4096) t p (by omega) b0 b1 (by omega) (by omega) t0 t1 p0 p1)
  have hlo := Lib.hid (lo_raw b (l / 4096) b0 b1 (by omega) (by omega))
  go_enter Try.func12, Try.ntmps12
  go_wp2_with fail
  rw [hraw.out]
  clear hmm u0 u1 u2 ur
  go_loopw [3] (fun h wr => ∃ seen : Array Nat, h = .int .u32 (hiF 8388608 b (l / 4096) t p (mk (hs seen 0) (!s) 4096) (mk (hs seen 1) r 32768) (mk (hs seen 2) g 4194304)) ∧ It wr (w.heap.size + 1) (w.heap.size + 2) s r g seen ∧
      wr.heap[w.heap.size]? = some (.cells #[.int .u32 b, .int .u32 l, .int .i64 t, .bool s, .int .i64 p, .bool r, .bool g] 25) ∧ Below w.heap.size w wr) (fun _ wr => itLeft wr (w.heap.size + 2))
  case atStart =>
    refine ⟨#[], ?_, ⟨?_, ?_⟩, ?_, by go_grown⟩
    · simp [mk, hiF, hs]
    · have h := heap_alloc_lt2 (o' := .mapIter (some (w.heap.size + 1)) 3 #[] 3) (heap_new2 (w.alloc (.cells #[.int .u32 b, .int .u32 l, .int .i64 t, .bool s, .int .i64 p, .bool r, .bool g] 25)) (.map (es3 s r g) 3))
      simp only [World.size_alloc] at h
      exact h
    · have h := heap_new2 ((w.alloc (.cells #[.int .u32 b, .int .u32 l, .int .i64 t, .bool s, .int .i64 p, .bool r, .bool g] 25)).alloc (.map (es3 s r g) 3)) (.mapIter (some (w.heap.size + 1)) 3 #[] 3)
      simp only [World.size_alloc] at h
      exact h
    · exact heap_alloc_lt2 (heap_alloc_lt2 (heap_new2 w _))
  case round =>
    obtain ⟨seen, rfl, hI, hbox, hB⟩ := hrel
    have hm0 := mk_cases (hs seen 0) (!s) 4096
    have hm1 := mk_cases (hs seen 1) r 32768
    have hm2 := mk_cases (hs seen 2) g 4194304
    rcases hI.step (by omega) 0 with ⟨c0, c1, c2, hrun⟩ | ⟨j, k, v, w1, hj, hc, hrun, hen, hI1, ho, ht, hou, hs1, hk1⟩
    · rw [show hs seen 0 = true from c0, show hs seen 1 = true from c1, show hs seen 2 = true from c2]
      have kb : wr.cell? ⟨w.heap.size, 0, none⟩ = some (.int .u32 b) := by simp [World.cell?, hbox]
      have kl : wr.cell? ⟨w.heap.size, 1, none⟩ = some (.int .u32 l) := by simp [World.cell?, hbox]
      clear hI hbox hm0 hm1 hm2 c0 c1 c2
      go_wp2_with fail
      go_ret3
      exact ⟨by rw [← hlo.out]; rfl, hB⟩
    · have hB1 : Below w.heap.size w w1 := hB.trans ⟨ho, ht, hou, by omega, fun i hi => hk1 i (by omega)⟩
      have hbox1 : w1.heap[w.heap.size]? = some (.cells #[.int .u32 b, .int .u32 l, .int .i64 t, .bool s, .int .i64 p, .bool r, .bool g] 25) := by rw [hk1 _ (by omega)]; exact hbox
      have hmeas : itLeft w1 (w.heap.size + 2) < itLeft wr (w.heap.size + 2) := by
        unfold itLeft
        rw [hI.2, hI1.2]
        simp only [lcnt, push_contains]
        rcases hj with ⟨rfl, _, _⟩ | ⟨rfl, _, _⟩ | ⟨rfl, _, _⟩ <;> cases h0 : seen.contains 0 <;> cases h1 : seen.contains 1 <;> cases h2 : seen.contains 2 <;> simp_all
      have HM := Lib.hid hmeas
      have HI1 := Lib.hid hI1
      have HBX := Lib.hid hbox1
      clear hI hbox hI1 hbox1 ho ht hou hs1 hk1 hmeas
      rcases hj with ⟨rfl, rfl, rfl⟩ | ⟨rfl, rfl, rfl⟩ | ⟨rfl, rfl, rfl⟩
      · have ho := or12 8388608 b (l / 4096) t p _ _ (by omega) b0 b1 (by omega) (by omega) t0 t1 p0 p1 hm1 hm2
        have hz : mk (hs seen 0) (!s) 4096 = 0 := by rw [show hs seen _ = false from hc]; rfl
        have HO := Lib.hid ho
        rw [hz]
        clear hm0 hm1 hm2 ho
        have HC := Lib.hid hc
        clear hc hz
        cases s
        all_goals
          simp only [Bool.not_true, Bool.not_false] at hrun hen
          go_wp2_with fail
          go_roundw
          case rel => exact ⟨seen.push 0, by rw [pc_same, pc_other seen 1 0 (by decide), pc_other seen 2 0 (by decide)]; first | rfl | exact congrArg (Value.int .u32) HO.out, HI1.out, HBX.out, hB1⟩
          case measure => exact HM.out
      · have ho := or15 8388608 b (l / 4096) t p _ _ (by omega) b0 b1 (by omega) (by omega) t0 t1 p0 p1 hm0 hm2
        have hz : mk (hs seen 1) r 32768 = 0 := by rw [show hs seen _ = false from hc]; rfl
        have HO := Lib.hid ho
        rw [hz]
        clear hm0 hm1 hm2 ho
        have HC := Lib.hid hc
        clear hc hz
        cases r
        all_goals
          go_wp2_with fail
          go_roundw
          case rel => exact ⟨seen.push 1, by rw [pc_same, pc_other seen 0 1 (by decide), pc_other seen 2 1 (by decide)]; first | rfl | exact congrArg (Value.int .u32) HO.out, HI1.out, HBX.out, hB1⟩
          case measure => exact HM.out
      · have ho := or22 8388608 b (l / 4096) t p _ _ (by omega) b0 b1 (by omega) (by omega) t0 t1 p0 p1 hm0 hm1
        have hz : mk (hs seen 2) g 4194304 = 0 := by rw [show hs seen _ = false from hc]; rfl
        have HO := Lib.hid ho
        rw [hz]
        clear hm0 hm1 hm2 ho
        have HC := Lib.hid hc
        clear hc hz
        cases g
        all_goals
          go_wp2_with fail
          go_roundw
          case rel => exact ⟨seen.push 2, by rw [pc_same, pc_other seen 0 2 (by decide), pc_other seen 1 2 (by decide)]; first | rfl | exact congrArg (Value.int .u32) HO.out, HI1.out, HBX.out, hB1⟩
          case measure => exact HM.out


set_option maxHeartbeats 4000000 in
theorem pack_t_neg (b l t p : Int) (s r g : Bool) (w : World) (b0 : 0 ≤ b) (b1 : b < 4294967296) (l0 : 0 ≤ l) (l1 : l < 4294967296) (ht : t < 0) (htl : -9223372036854775808 ≤ t) :
    Calls Try.prog 12 #[.agg #[.int .u32 b, .int .u32 l, .int .i64 t, .bool s, .int .i64 p, .bool r, .bool g]] w fun e w' =>
      e = .returned (.tuple #[.int .u32 0, .int .u32 0, .int .i64 80]) ∧ Below w.heap.size w w' := by
  have hw : 15 < IntKind.u64.wrap t := by rw [IntKind.wrap_u64]; omega
  clear htl
  go_enter Try.func12, Try.ntmps12
  go_wp2_with fail
  all_goals
    go_ret3
    exact ⟨rfl, by go_grown⟩

set_option maxHeartbeats 4000000 in
theorem pack_t_big (b l t p : Int) (s r g : Bool) (w : World) (b0 : 0 ≤ b) (b1 : b < 4294967296) (l0 : 0 ≤ l) (l1 : l < 4294967296) (ht : 15 < t) (htl : t ≤ 9223372036854775807) :
    Calls Try.prog 12 #[.agg #[.int .u32 b, .int .u32 l, .int .i64 t, .bool s, .int .i64 p, .bool r, .bool g]] w fun e w' =>
      e = .returned (.tuple #[.int .u32 0, .int .u32 0, .int .i64 80]) ∧ Below w.heap.size w w' := by
  go_enter Try.func12, Try.ntmps12
  go_wp2_with fail
  all_goals
    go_ret3
    exact ⟨rfl, by go_grown⟩

set_option maxHeartbeats 4000000 in
theorem pack_p_neg (b l t p : Int) (s r g : Bool) (w : World) (b0 : 0 ≤ b) (b1 : b < 4294967296) (l0 : 0 ≤ l) (l1 : l < 4294967296) (t0 : 0 ≤ t) (t1 : t < 16) (ht : p < 0) (htl : -9223372036854775808 ≤ p) :
    Calls Try.prog 12 #[.agg #[.int .u32 b, .int .u32 l, .int .i64 t, .bool s, .int .i64 p, .bool r, .bool g]] w fun e w' =>
      e = .returned (.tuple #[.int .u32 0, .int .u32 0, .int .i64 80]) ∧ Below w.heap.size w w' := by
  have hw : 3 < IntKind.u64.wrap p := by rw [IntKind.wrap_u64]; omega
  clear htl
  go_enter Try.func12, Try.ntmps12
  go_wp2_with fail
  all_goals
    go_ret3
    exact ⟨rfl, by go_grown⟩

set_option maxHeartbeats 4000000 in
theorem pack_p_big (b l t p : Int) (s r g : Bool) (w : World) (b0 : 0 ≤ b) (b1 : b < 4294967296) (l0 : 0 ≤ l) (l1 : l < 4294967296) (t0 : 0 ≤ t) (t1 : t < 16) (ht : 3 < p) (htl : p ≤ 9223372036854775807) :
    Calls Try.prog 12 #[.agg #[.int .u32 b, .int .u32 l, .int .i64 t, .bool s, .int .i64 p, .bool r, .bool g]] w fun e w' =>
      e = .returned (.tuple #[.int .u32 0, .int .u32 0, .int .i64 80]) ∧ Below w.heap.size w w' := by
  go_enter Try.func12, Try.ntmps12
  go_wp2_with fail
  all_goals
    go_ret3
    exact ⟨rfl, by go_grown⟩

set_option maxHeartbeats 4000000 in
theorem pack_l_bad (b l t p : Int) (s r g : Bool) (w : World) (b0 : 0 ≤ b) (b1 : b < 4294967296) (l0 : 0 ≤ l) (l1 : l < 4294967296) (t0 : 0 ≤ t) (t1 : t < 16) (p0 : 0 ≤ p) (p1 : p < 4) (hl : 1048575 < l) (hm : l % 4096 ≠ 4095) :
    Calls Try.prog 12 #[.agg #[.int .u32 b, .int .u32 l, .int .i64 t, .bool s, .int .i64 p, .bool r, .bool g]] w fun e w' =>
      e = .returned (.tuple #[.int .u32 0, .int .u32 0, .int .i64 80]) ∧ Below w.heap.size w w' := by
  have hand : (bits BinOp.and IntKind.u32 l 4095 != 4095) = true := by
    have := and_field_u32 l 4095 0 12 l0 l1 (by decide) (by decide) (by decide)
    simp only [Nat.pow_zero, Nat.reducePow] at this
    simp; omega
  clear hm
  go_enter Try.func12, Try.ntmps12
  go_wp2_with fail
  all_goals
    go_ret3
    exact ⟨rfl, by go_grown⟩

def packed (l t p : Int) : Bool := decide (0 ≤ t) && decide (t < 16) && decide (0 ≤ p) && decide (p < 4) && (decide (l ≤ 1048575) || l % 4096 == 4095)
set_option maxHeartbeats 4000000 in
theorem packed_any (b l t p : Int) (s r g : Bool) (w : World) (l0 : 0 ≤ l) (l1 : l < 4294967296) :
    Calls Try.prog 13 #[.agg #[.int .u32 b, .int .u32 l, .int .i64 t, .bool s, .int .i64 p, .bool r, .bool g]] w fun e w' =>
      e = .returned (.bool (packed l t p)) ∧ Below w.heap.size w w' := by
  go_enter Try.func13, Try.ntmps13
  go_wp2_with fail
  all_goals
    go_ret
    refine ⟨?_, by go_grown⟩
    first | (simp_all [packed]; done) | (simp_all [packed]; omega)
end Go.Proofs.Ytjcgpkokndckfaa
