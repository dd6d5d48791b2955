/- How long a slice may be that came in: the form's own reach. -/
import Derived.Test.YtojmpdddfnkffaaIn
import Derived.SizedLaws
namespace Go.Proofs.Ytojmpdddfnkffaa
open Go.RowKit Go.WideShapes Go.ChangeShapes

theorem arg_reach {H : Type} {enc : TypeId × Value → H} {P : Program} {w : World} {base : Nat} {spare : Nat → Bool} {held : Bool} {t e : TypeId} {a : Option Addr} {len cap : Nat} {d : DataW H} {ps : List MemPlace} {ts : List TypeId} {ds : List (DataW H)} {j : Nat}
    (hsz : (DataW.weightsEach P ts ds).all (· ≤ reachBytes) = true) (hts : ts[j]? = some t) (hds : ds[j]? = some d) (ht : P.underlying t = some (.slice e)) (hd : DataW.Trod enc P w base spare held t (.slice a len cap) d ps) : len * P.bytesOf e ≤ 140737488351232 := by
  obtain ⟨fuel, hf⟩ := hd
  rcases DataW.trod_slice ht hf with ⟨hcs, hx⟩ | ⟨a', len', cap', elems, rest, n, _, hcs, hd, _, hl, hm, hel, hrow, _, hx⟩
  · simp only [Value.cells] at hcs
    have hcs' : Value.slice a len cap = Value.slice none 0 0 := by simpa using hcs
    simp only [Value.slice.injEq] at hcs'
    obtain ⟨rfl, rfl, rfl⟩ := hcs'
    omega
  · have hcs' : Value.slice a len cap = Value.slice (some a') len' cap' := by simpa [Value.cells] using hcs
    simp only [Value.slice.injEq] at hcs'
    obtain ⟨rfl, rfl, rfl⟩ := hcs'
    simp only [Prod.mk.injEq] at hd
    rw [hd.1] at hds
    have := sized_slice hsz hts hds ht
    rw [List.length_map, hel] at this
    have h2 : len * P.bytesOf e ≤ (len + (rest.map (·.1)).length) * P.bytesOf e := Nat.mul_le_mul_right _ (Nat.le_add_right _ _)
    exact Nat.le_trans h2 (Nat.le_trans this (by decide))
end Go.Proofs.Ytojmpdddfnkffaa
