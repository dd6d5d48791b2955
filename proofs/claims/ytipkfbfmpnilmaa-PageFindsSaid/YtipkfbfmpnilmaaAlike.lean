/- page's law: have two memories the same bytes? -/
import Derived.Test.YtipkfbfmpnilmaaPAwake
import Derived.Laws.BytesArg
namespace Go.Proofs.Ytipkfbfmpnilmaa
open Go.RowKit Go.MapKept
set_option linter.unusedVariables false

theorem Ram.heapEq {w w' : World} {b : Nat} {S : Nat → Prop} {R : RS} (H : Ram w b S R) (h : w'.heap = w.heap) : Ram w' b S R := by
  obtain ⟨bp, bo, bw, bn, pg, I, hS⟩ := H
  exact ⟨bp, bo, bw, bn, pg, I.of_heap fun k _ => by rw [h], hS⟩
theorem Ref.heapEq {w w' : World} {b : Nat} {S : Nat → Prop} {R : RS} (H : Ref w b S R) (h : w'.heap = w.heap) : Ref w' b S R := by
  obtain ⟨g0, g1, g2, g3, I, hS⟩ := H
  exact ⟨g0, g1, g2, g3, I.of_heap fun k _ => by rw [h], hS⟩
/-- n bytes as a string. -/
def strOf (n : Nat) (f : Nat → Nat) : ByteArray := strOfNums ((List.range n).map fun i => ((f i : Nat) : Int))
theorem conv_bytes {w : World} {g n cap : Nat} {f : Nat → Nat} {T : TypeId} (h : w.heap[g]? = some (.cells (byteCells n f) T)) :
    (convert 64 9 (.slice (some ⟨g, 0, .none⟩) n cap)).run Try.prog w = .ok (.string (strOf n f)) w := by
  refine run_convert_bytes_arg w _ _ Try.underlying64 Try.underlying5 g 0 n cap ((List.range n).map fun i => ((f i : Nat) : Int)) (by simp) ?_ _ Try.underlying9
  intro i hi
  rw [cell_at h, Nat.zero_add, byteCells_at _ _ _ hi]
  simp [List.getD, hi]
theorem strOf_congr {n : Nat} {f g : Nat → Nat} (h : ∀ i, i < n → f i = g i) : strOf n f = strOf n g := by
  unfold strOf
  congr 1
  refine List.map_congr_left fun i hi => ?_
  rw [h i (List.mem_range.1 hi)]
theorem get_byte {R : RS} (h : R.ok) (i : Nat) (hi : i < R.size) : R.get (at32 0 i) = R.byte i := by
  have hs := RS.size_le h
  have e : at32 0 i = i := by unfold at32; omega
  have hp : R.place i = i := by
    unfold RS.place
    split
    · have := place_bit i (by omega)
      rw [this, if_neg (by omega)]
    · rfl
  unfold RS.get
  rw [e, hp, if_pos hi]

set_option maxRecDepth 100000 in
set_option maxHeartbeats 8000000 in
theorem alike_any {w : World} {b b' : Nat} {S S' : Nat → Prop} {R : RS} (H : Ram w b S R) (H' : Ref w b' S' R) :
    Calls Try.prog 12 #[.pointer (some ⟨b, 0, .none⟩), .pointer (some ⟨b', 0, .none⟩)] w fun e w' => e = .returned (.bool true) ∧ Below w.heap.size w w' := by
  obtain ⟨g0, g1, g2, g3, I, hS⟩ := H'
  have k0 := I.facts.1
  have r0 := I.r0
  have hs := RS.size_pos H.isok
  have hs2 := RS.size_le H.isok
  have HC : Hid (∀ w' : World, Below w.heap.size w w' → w'.cell? ⟨b', 0, .none⟩ = some (.slice (some ⟨g0, 0, .none⟩) R.size R.size) ∧ (convert 64 9 (.slice (some ⟨g0, 0, .none⟩) R.size R.size)).run Try.prog w' = .ok (.string (strOf R.size R.byte)) w') := fun w' hb => by
    have hb1 := (bcell hb).1 b' 0 (heap_lt I.obj)
    exact ⟨by rw [hb1]; exact k0, conv_bytes (heap_below hb r0)⟩
  have HD := Lib.hid (fun w' g (h : w'.heap[g]? = some (.cells (Array.ofFn (n := R.size) fun i => .int .u8 (R.get (at32 0 i.val) : Nat)) 5)) => conv_bytes (w := w') (g := g) (n := R.size) (cap := R.size) (f := fun i => R.get (at32 0 i)) h)
  have HE := Lib.hid (strOf_congr (fun i hi => get_byte H.isok i hi))
  clear k0 r0
  go_enter Try.func12, Try.ntmps12
  go_wp2_with fail
  obtain ⟨k0, cv⟩ := HC.out w (Below.refl _ _)
  have cvd := (HC.out w.drew (Below.refl _ _).drew).2
  go_region_with (first | (go_at_call 24; refine (len_any (H.heapEq (w' := w.drew) rfl)).mono ?_; rintro e w' ⟨rfl, rfl⟩) | (go_at_call 25; refine (dump_any (H.heapEq (w' := w.drew) rfl) 0 R.size (by decide) (by omega) (by omega)).mono ?_; rintro e w' ⟨g, rfl, hg, hcl, hb⟩; have hcv := HD.out _ _ hcl; have hB : Below w.heap.size w w' := ((Below.refl w.heap.size w).drew).trans hb; obtain ⟨k1, cv1⟩ := HC.out w' hB; clear hcl))
  all_goals
    have he : ((strOf R.size fun i => R.get (at32 0 i)).toList == (strOf R.size R.byte).toList) = true := by rw [HE.out]; simp
    simp only [he]
    clear HC HD HE cv cvd hcv cv1 k0 k1
    go_wp2_with fail
    go_returns
    exact ⟨rfl, hB⟩
end Go.Proofs.Ytipkfbfmpnilmaa
