/- page's law: have two memories the same bytes? -/
import Derived.Test.YtknokiadbkgmaaaBoth
import Derived.Laws.BytesArg
namespace Go.Proofs.Ytknokiadbkgmaaa
open Go.RowKit Go.MapKept
set_option linter.unusedVariables false

theorem Ram.heapEq {w w' : World} {b : Nat} {S : Nat → Prop} {R : RS} (H : Ram w b S R) (h : w'.heap = w.heap) : Ram w' b S R := by
  obtain ⟨bp, bo, bw, bn, pg, I, hS⟩ := H
  exact ⟨bp, bo, bw, bn, pg, I.of_heap fun k _ => by rw [h], hS⟩
theorem Ref.heapEq {w w' : World} {b : Nat} {S : Nat → Prop} {R : RS} (H : Ref w b S R) (h : w'.heap = w.heap) : Ref w' b S R := by
  obtain ⟨g0, g1, g2, g3, I, hS⟩ := H
  exact ⟨g0, g1, g2, g3, I.of_heap fun k _ => by rw [h], hS⟩
/-- n bytes as a string. -/
def strOf (n : Nat) (f : Nat → Nat) : ByteArray := strOfNums ((List.range n).map fun i => ((f i : Nat) : Int))
theorem conv_bytes {w : World} {g n cap : Nat} {f : Nat → Nat} {T : TypeId} (h : w.heap[g]? = some (.cells (byteCells n f) T)) :
    (convert 62 9 (.slice (some ⟨g, 0, .none⟩) n cap)).run Try.prog w = .ok (.string (strOf n f)) w := by
  refine run_convert_bytes_arg w _ _ Try.underlying62 Try.underlying5 g 0 n cap ((List.range n).map fun i => ((f i : Nat) : Int)) (by simp) ?_ _ Try.underlying9
  intro i hi
  rw [cell_at h, Nat.zero_add, byteCells_at _ _ _ hi]
  simp [List.getD, hi]
theorem strOf_congr {n : Nat} {f g : Nat → Nat} (h : ∀ i, i < n → f i = g i) : strOf n f = strOf n g := by
  unfold strOf
  congr 1
  refine List.map_congr_left fun i hi => ?_
  rw [h i (List.mem_range.1 hi)]
theorem get_byte {R : RS} (h : R.ok) (i : Nat) (hi : i < R.size) : R.get (at32 0 i) = R.byte i := by
  have hs := RS.size_le h
  have e : at32 0 i = i := by unfold at32; omega
  have hp : R.place i = i := by
    unfold RS.place
    split
    · have := place_bit i (by omega)
      rw [this, if_neg (by omega)]
    · rfl
  unfold RS.get
  rw [e, hp, if_pos hi]

end Go.Proofs.Ytknokiadbkgmaaa
