/- ide's law: bytes that come in, and a copy of them. -/
import Derived.Test.YtebhnfoehgpilaaIdeRc
import Derived.Test.YtebhnfoehgpilaaReach
namespace Go.Proofs.Ytebhnfoehgpilaa
open Go.RowKit Go.WideShapes Go.ChangeShapes
set_option linter.unusedVariables false

theorem arg_bytes {H : Type} {enc : TypeId × Value → H} {w : World} {r : Reach} {base base' : Nat} {spare : Nat → Bool} {held : Bool} {v : Value} {d : DataW H} {ps : List MemPlace}
    (h : Value.okWide Try.prog w r base 23 v) (hd : DataW.Trod enc Try.prog w base' spare held 23 v d ps) :
    ∃ a len cap f, v = .slice a len cap ∧ Reads w (.slice a len cap) len f ∧ ∀ i, f i < 256 := by
  obtain ⟨a0, len, cap, rfl⟩ := okWide_slice Try.underlying23 h
  obtain ⟨fuel, hf⟩ := hd
  rcases open_ints Try.underlying23 Try.underlying5 (by kernel_rfl) hf with ⟨hcs, hx⟩ | ⟨a, len', cap', zs, hcs, _, hl, hm, hz, hx, hcell, hwz⟩
  · simp only [Value.cells] at hcs
    have hcs' : Value.slice a0 len cap = Value.slice none 0 0 := by simpa using hcs
    simp only [Value.slice.injEq] at hcs'
    obtain ⟨rfl, rfl, rfl⟩ := hcs'
    exact ⟨none, 0, 0, fun _ => 0, rfl, ⟨none, 0, rfl, .inl ⟨rfl, fun _ => rfl⟩⟩, fun i => by show 0 < 256; decide⟩
  · have hcs' : Value.slice a0 len cap = Value.slice (some a) len' cap' := by simpa [Value.cells] using hcs
    simp only [Value.slice.injEq] at hcs'
    obtain ⟨rfl, rfl, rfl⟩ := hcs'
    refine ⟨some a, len, cap, fun i => (zs.getD i 0).toNat % 256, rfl, ⟨some a, cap, rfl, ?_⟩, fun i => Nat.mod_lt _ (by decide)⟩
    have hzl : len ≤ zs.length := by rw [hz]; split <;> omega
    by_cases h0 : len = 0
    · exact .inl ⟨h0, fun h => by cases h⟩
    · obtain ⟨b, off, spot⟩ := a
      have c0 := hcell 0 (by omega)
      have hspot : spot = none := by simpa [Addr.add] using World.cell?_spot c0
      subst hspot
      refine .inr ⟨b, off, rfl, ?_, fun i hi => ?_⟩
      · have := cell_block_lt c0
        rw [Go.WideShapes.add_plain] at this
        exact this
      · have hc := hcell i (by omega)
        rw [Go.WideShapes.add_plain] at hc
        have hi2 : i < zs.length := by omega
        have e : zs.getD i 0 = zs[i] := by simp [List.getD, hi2]
        have hw := wf_u8 (hwz zs[i] (List.getElem_mem hi2))
        rw [hc]
        simp only [e]
        congr 2
        omega
theorem Reads.below' {w w' : World} {v : Value} {n : Nat} {d : Nat → Nat} (h : Reads w v n d) (hb : Below w.heap.size w w') : Reads w' v n d := by
  obtain ⟨a, c, rfl, h⟩ := h
  refine ⟨a, c, rfl, h.imp id ?_⟩
  rintro ⟨b, off, rfl, hl, hc⟩
  exact ⟨b, off, rfl, Nat.lt_of_lt_of_le hl hb.size, fun i hi => (hb.cell hl).trans (hc i hi)⟩
theorem wpList_append_bytes {w : World} {ops : Array Oper} {rest : List Oper} {o : Oper} {b : Act} {Q : Exit → Act → World → Prop} (hgd : o.guard = none) (s x : Operand)
    (ho : o.op = .call { callee := .builtin .append, args := #[s, x], argTypes := #[23, 23] }) {B q n : Nat} {v : Value} {d : Nat → Nat}
    (hs : b.eval s = .slice (some ⟨q, 0, none⟩) 0 0) (hown : w.ownsRow B 5 1 (.slice (some ⟨q, 0, none⟩) 0 0) 0 []) (hx : b.eval x = v) (H : Reads w v n d) (hn : n ≤ 140737488351232) (hB : B ≤ w.heap.size)
    (h : ∀ a' c' w', w'.ownsRow B 5 1 (.slice a' n c') n (bytesL n d) → w.grownBy w' (some q) → wpList Try.prog ops Q rest (b.put o.dst (.slice a' n c')) w') : wpList Try.prog ops Q (o :: rest) b w := by
  obtain ⟨i0, hi, hz0, hz1, hz2⟩ := info_parts info8
  rcases reads_news H with ⟨rfl, rfl⟩ | ⟨ad, c, rfl, hnews⟩
  · exact wpList_append_own_none hgd s x 23 ho B 5 i0 1 Try.underlying23 hi _ 0 [] hs hown hx (h _ _ _ hown (World.grownBy.refl _ _))
  · refine wpList_append_own w hgd s x 23 ho B 5 i0 (.int .u8 0) 1 1 Try.underlying23 hi hz0 hz1 hz2 rfl (by decide) _ 0 [] hs hown ad n c (bytesL n d) hx (by rw [bytesL_len]; omega) hnews (bytesL_one n d) (by unfold maxLen; omega) (by omega) hB ?_
    intro v' w1 hown1 hgrow1 _
    have h1 : w1.ownsRow B 5 1 v' n (bytesL n d) := by simpa using hown1
    obtain ⟨a', c', rfl⟩ := row_len h1
    exact h a' c' w1 h1 hgrow1
end Go.Proofs.Ytebhnfoehgpilaa
