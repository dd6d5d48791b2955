/- tlb's keys: structs of five cells. -/
import Derived.Test.YtknokiadbkgmaaaRows
import Derived.Test.YtknokiadbkgmaaaKeyA
import Derived.DeepKeys5
import Derived.KernelRfl
namespace Go.Proofs.Ytknokiadbkgmaaa
open Go.RowKit Go.MapKept Go.Maps
set_option linter.unusedVariables false

/-- A page, as it was asked for. -/
structure PKey where
  c : Nat
  p : Nat
  wr : Bool
  us : Bool
  wp : Bool
  hc : c < 4294967296
  hp : p < 4294967296
deriving DecidableEq
def PKey.val (K : PKey) : Value := .agg #[.int .u32 (K.c : Nat), .int .u32 (K.p : Nat), .bool K.wr, .bool K.us, .bool K.wp]
theorem PKey.inj {K L : PKey} (h : K.val = L.val) : K = L := by
  obtain ⟨c, p, a, b, d, _, _⟩ := K
  obtain ⟨c', p', a', b', d', _, _⟩ := L
  simp only [PKey.val, Value.agg.injEq, Array.mk.injEq, List.cons.injEq, Value.int.injEq, Value.bool.injEq, true_and, and_true] at h
  obtain ⟨h1, h2, h3, h4, h5⟩ := h
  have h1 : c = c' := by omega
  have h2 : p = p' := by omega
  subst h1 h2 h3 h4 h5
  rfl
theorem key_law : Keyed Try.prog 127 := Keyed.of_law (deep_law (m := 10) (by decide) (by kernel_rfl) (by kernel_rfl) (by kernel_rfl))
theorem wf32 (n : Nat) (h : n < 4294967296) : (Lit.int .u32 (n : Nat)).wf = true := by
  have e1 : IntKind.u32.min = 0 := rfl
  have e2 : IntKind.u32.max = 4294967295 := rfl
  simp [Lit.wf]
  omega
theorem PKey.reads (K : PKey) : ∃ l, keyOf Try.prog 127 K.val = some l := by
  obtain ⟨c, p, a, b, d, hc, hp⟩ := K
  have w1 := wf32 c hc
  have w2 := wf32 p hp
  have hu := Try.underlying127
  have hk : Try.prog.keyType 127 = true := by kernel_rfl
  have hf : (PKey.val ⟨c, p, a, b, d, hc, hp⟩).formed Try.prog 127 = true := by kernel_rfl
  have hl : Try.prog.keyLits (Try.prog.types.size + 1) 127 (PKey.val ⟨c, p, a, b, d, hc, hp⟩).cells.toList = some [.int .u32 (c : Nat), .int .u32 (p : Nat), .bool a, .bool b, .bool d] := by
    obtain ⟨m, hm⟩ : ∃ m, Try.prog.types.size = m + 2 := ⟨Try.prog.types.size - 2, by have : 2 ≤ Try.prog.types.size := of_decide_eq_true (by kernel_rfl); omega⟩
    rw [hm]
    have u1 := Try.underlying23
    have u2 := Try.underlying4
    have u3 := Try.underlying97
    have c1 : Try.prog.cellsOf 23 = 1 := by kernel_rfl
    have c2 : Try.prog.cellsOf 4 = 1 := by kernel_rfl
    have c3 : Try.prog.cellsOf 97 = 3 := by kernel_rfl
    have c4 : Try.prog.cellsOf 127 = 5 := by kernel_rfl
    simp [Program.keyLits, hu, u1, u2, u3, c1, c2, c3, c4, PKey.val, Value.cells, w1, w2]
    rw [if_pos (by intro i hi; rcases i with _ | _ | _ | i <;> first | (simp; done) | (exfalso; omega))]
    rfl
  exact ⟨_, by unfold keyOf; rw [hu]; simp only [hk, hf, hl]; rfl⟩
theorem PK : KeyT Try.prog 127 PKey PKey.val := ⟨key_law, PKey.reads, fun _ _ h => PKey.inj h⟩
end Go.Proofs.Ytknokiadbkgmaaa
