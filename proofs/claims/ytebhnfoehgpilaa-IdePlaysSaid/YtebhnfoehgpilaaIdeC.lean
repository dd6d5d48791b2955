/- ide: slices of bytes are cloned; a disk is made. -/
import Derived.Test.YtebhnfoehgpilaaIdeB
import Derived.Lib.SliceRun
namespace Go.Proofs.Ytebhnfoehgpilaa
open Go.RowKit
set_option linter.unusedVariables false

/-- A slice of n bytes that is read. -/
def Reads (w : World) (v : Value) (n : Nat) (d : Nat → Nat) : Prop :=
  ∃ a c, v = .slice a n c ∧ ((n = 0 ∧ (a = none → c = 0)) ∨ ∃ b off, a = some ⟨b, off, none⟩ ∧ b < w.heap.size ∧ ∀ i, i < n → w.cell? ⟨b, off + i, none⟩ = some (.int .u8 (d i : Nat)))
theorem info8 : (Try.prog.info? 5).map (fun i => (i.zero, i.size, i.bytes)) = some (some (.int .u8 0), 1, 1) := by kernel_rfl

set_option maxHeartbeats 1000000 in
theorem clone_some (w : World) (ad : Addr) (n c : Nat) (d : Nat → Nat) (hn : n ≤ 140737488355328) (hc : ∀ i, i < n → w.cell? (ad.add i) = some (.int .u8 (d i : Nat))) :
    Calls Try.prog 24 #[.slice (some ad) n c] w fun e w' => ∃ v, e = .returned v ∧ w'.ownsRow w.heap.size 5 1 v n (bytesL n d) ∧ Below w.heap.size w w' := by
  obtain ⟨i0, hi, hz0, hz1, hz2⟩ := info_parts info8
  have hnil : ∀ w, (binOp .eql 23 (.slice (some ad) n c) (.slice none 0 0)).run Try.prog w = .ok (.bool false) w := fun w => Lib.run_eql_slice_nil w _ _ _ _ _ _ _ Try.underlying23
  have hown : (w.alloc (.cells #[] 5)).ownsRow w.heap.size 5 1 (.slice (some ⟨w.heap.size, 0, none⟩) 0 0) 0 [] := World.ownsRow_made w #[] 0 (Nat.le_refl _) (by decide) (by simp)
  have hnews : ∀ j u, (bytesL n d)[j]? = some u → (w.alloc (.cells #[] 5)).cell? (ad.add j) = some u := fun j u h => by
    obtain ⟨hj, rfl⟩ := bytesL_some h
    rw [World.cell?_alloc_lt _ _ _ (World.block_lt_of_cell? w _ (hc j hj))]
    exact hc j hj
  have HN := Lib.hid hnews
  clear hnews hc
  go_enter Try.func24, Try.ntmps24
  go_wp2_with (at_builtin; refine wpList_append_own _ rfl _ _ 23 rfl w.heap.size 5 i0 (.int .u8 0) 1 1 Try.underlying23 hi hz0 hz1 hz2 rfl (by decide) _ 0 [] rfl hown ad n c (bytesL n d) rfl (by rw [bytesL_len]; omega) HN.out (bytesL_one n d) (by unfold maxLen; omega) (by omega) (by simp) ?_; intro v' w1 hown1 hgrow1 _)
  go_ret
  simp only [Nat.zero_add, List.nil_append] at hown1
  have hg : (w.alloc (.cells #[] 5)).grownBy w1 (some w.heap.size) := hgrow1
  exact ⟨_, rfl, hown1, ((Below.refl _ _).alloc (Nat.le_refl _) _).grown hg (by simp) (by intro k hk; cases hk; exact Nat.le_refl _)⟩
theorem clone_nil (w : World) : Calls Try.prog 24 #[.slice none 0 0] w fun e w' => e = .returned (.slice none 0 0) ∧ w = w' := by
  have hnil : ∀ w, (binOp .eql 23 (.slice none 0 0) (.slice none 0 0)).run Try.prog w = .ok (.bool true) w := fun w => Lib.run_eql_slice_nil w _ _ _ _ _ _ _ Try.underlying23
  go_enter Try.func24, Try.ntmps24
  go_wp2_with fail
  go_ret
  exact ⟨rfl, rfl⟩
/-- A slice that is read is cloned. -/
theorem clone_any {w : World} {v : Value} {n : Nat} {d : Nat → Nat} (H : Reads w v n d) (hn : n ≤ 140737488355328) :
    Calls Try.prog 24 #[v] w fun e w' => ∃ v', e = .returned v' ∧ w'.ownsRow w.heap.size 5 1 v' n (bytesL n d) ∧ Below w.heap.size w w' := by
  obtain ⟨a, c, rfl, h⟩ := H
  cases a with
  | none =>
    rcases h with ⟨rfl, h⟩ | ⟨b, off, h, _⟩
    · rw [h rfl]
      refine (clone_nil w).mono ?_
      rintro e w' ⟨rfl, rfl⟩
      exact ⟨_, rfl, World.ownsRow_nil _ _ _ _, Below.refl _ _⟩
    · cases h
  | some a =>
    rcases h with ⟨rfl, h⟩ | ⟨b, off, h, _, hc⟩
    · exact clone_some w a 0 c d hn (fun i hi => by omega)
    · cases h
      exact clone_some w ⟨b, off, none⟩ n c d hn (fun i hi => by rw [Go.WideShapes.add_plain]; exact hc i hi)
end Go.Proofs.Ytebhnfoehgpilaa
