/- vmem: pages. -/
import Derived.Test.YtknokiadbkgmaaaVmC
import Derived.Deep.RegionWith
import Derived.LoopN
namespace Go.Proofs.Ytknokiadbkgmaaa
open Go.RowKit Go.MapKept
set_option linter.unusedVariables false

/-- Where bytes lie, as an ending. -/
def PgEnd (w : World) (vb : Nat) (places : Pl) (n : Nat) (H : Nat → Prop) (g : PgR × RS) (e : Ending) (w' : World) : Prop :=
  (∀ s, g.1 = .ok s → e = .returned s.val) ∧ (∀ cd a, g.1 = .fault cd a → e = gaveUp 14 cd a) ∧ ∃ H', Vm w' vb places (n + 2) H' g.2 ∧ Moves H H' w w'
section
variable {w : World} {vb cb : Nat} {places : Pl} {n : Nat} {H : Nat → Prop} {R : RS} {C : CpuS}
theorem bit_ands (x i : Nat) (hi : i < 32) (h : x < 4294967296) : bits .and .u32 (x : Int) ((2 ^ i : Nat) : Int) = ((x / 2 ^ i % 2 * 2 ^ i : Nat) : Int) := by
  have e := u32_and_nat x (2 ^ i) h (Nat.lt_of_lt_of_le (Nat.pow_lt_pow_right (by decide) hi) (by decide))
  rw [e]
  congr 1
  refine Nat.eq_of_testBit_eq fun j => ?_
  rw [Nat.testBit_and, Nat.testBit_two_pow, Nat.mul_comm, Nat.testBit_two_pow_mul]
  by_cases hj : i = j
  · subst hj
    rw [Nat.sub_self, Nat.testBit_zero]
    simp [Nat.testBit_eq_decide_div_mod_eq]
  · by_cases hl : i ≤ j
    · have h1 : ((x / 2 ^ i % 2).testBit (j - i)) = false := by
        refine Nat.testBit_lt_two_pow (Nat.lt_of_lt_of_le (Nat.mod_lt _ (by decide)) ?_)
        calc 2 = 2 ^ 1 := rfl
          _ ≤ 2 ^ (j - i) := Nat.pow_le_pow_right (by decide) (by omega)
      simp [hj, h1]
    · simp [hj, hl]
theorem Moves.ofBelow2 {S : Nat → Prop} {w w' : World} (hb : Below w.heap.size w w') : Moves S S w w' := ⟨Keeps.ofBelow hb, fun k h => .inl h⟩
theorem flat_end {w' : World} {lin size : Nat} {wr us : Bool} (hV : Vm w vb places n H R) (hp : C.paged = false) (hb : Below w.heap.size w w') {v : Value} (hv : v = (⟨lin, lin2 lin size, first lin size, size - first lin size⟩ : SpanS).val) : PgEnd w vb places n H (pg R C lin size wr us) (.returned v) w' := by
  have e : pg R C lin size wr us = (.ok ⟨lin, lin2 lin size, first lin size, size - first lin size⟩, R) := by unfold pg; rw [hp]; rfl
  rw [e]
  refine ⟨fun s h => ?_, (fun cd a h => by cases h), H, (hV.more (by omega)).below hb, Moves.ofBelow2 hb⟩
  cases h
  rw [hv]
theorem span_eq {a b c d a' b' c' d' : Int} (h1 : a = a') (h2 : b = b') (h3 : c = c') (h4 : d = d') : (Value.agg #[.int .u32 a, .int .u32 b, .int .u32 c, .int .u32 d]) = .agg #[.int .u32 a', .int .u32 b', .int .u32 c', .int .u32 d'] := by rw [h1, h2, h3, h4]
set_option maxHeartbeats 1000000 in
theorem pages_flat (hV : Vm w vb places n H R) (hC : CpuAt w cb C) (lin size : Nat) (hl : lin < 4294967296) (h1 : 1 ≤ size) (h4 : size ≤ 4) (wr us wp0 : Bool) (hp : C.paged = false) :
    Calls Try.prog 36 #[.pointer (some ⟨vb, 0, none⟩), .pointer (some ⟨cb, 0, none⟩), .int .u32 (lin : Nat), .int .i64 (size : Nat), .agg #[.bool wr, .bool us, .bool wp0]] w (PgEnd w vb places n H (pg R C lin size wr us)) := by
  obtain ⟨k0, -, -, kl⟩ := hC.cr
  have ha : bits .and .u32 (C.cr0 : Int) 2147483648 = ((C.cr0 / 2147483648 % 2 * 2147483648 : Nat) : Int) := bit_ands C.cr0 31 (by decide) hC.1.cr0
  have hz : C.cr0 / 2147483648 % 2 = 0 := by unfold CpuS.paged at hp; simp at hp; omega
  rw [hz] at ha
  have ha0 : bits .and .u32 (C.cr0 : Int) 2147483648 = 0 := ha
  have kl1 : cb < w.heap.size + 1 := by omega
  have kl2 : cb < w.heap.size + 1 + 1 := by omega
  have HV := Lib.hid hV
  have HP := Lib.hid hp
  clear ha hz hV hC hp
  by_cases hfit : lin % 4096 + size ≤ 4096
  · have hf1 : (size : Int) ≤ 4096 - (lin : Int) % 4096 := by omega
    have HF := Lib.hid hfit
    clear hfit
    go_enter Try.func36, Try.ntmps36
    go_wp2_with fail
    refine bodyPost_ret (v := .agg #[.int .u32 (lin : Nat), .int .u32 (((lin : Int) + (size : Int)) % 4294967296), .int .u32 (size : Nat), .int .u32 0]) (by simp [results, Try.results36, go_sem]) rfl (flat_end HV.out HP.out ((((Below.refl _ _).alloc (Nat.le_refl _) _).alloc (by simp) _).alloc (by simp; omega) _) ?_)
    have hfi : first lin size = size := by have := HF.out; unfold first; omega
    exact span_eq rfl (by show _ = ((lin2 lin size : Nat) : Int); unfold lin2; rw [hfi]; omega) (by show _ = ((first lin size : Nat) : Int); rw [hfi]) (by show _ = ((size - first lin size : Nat) : Int); rw [hfi]; omega)
  · have hf1 : 4096 - (lin : Int) % 4096 < (size : Int) := by omega
    have hf2 : ¬ (size : Int) ≤ 4096 - (lin : Int) % 4096 := by omega
    have HF := Lib.hid hfit
    clear hfit
    go_enter Try.func36, Try.ntmps36
    go_wp2_with fail
    refine bodyPost_ret (v := .agg #[.int .u32 (lin : Nat), .int .u32 (((lin : Int) + (4096 - (lin : Int) % 4096)) % 4294967296), .int .u32 (4096 - (lin : Int) % 4096), .int .u32 ((size : Int) - (4096 - (lin : Int) % 4096))]) (by simp [results, Try.results36, go_sem]) rfl (flat_end HV.out HP.out ((((Below.refl _ _).alloc (Nat.le_refl _) _).alloc (by simp) _).alloc (by simp; omega) _) ?_)
    have hfi : first lin size = 4096 - lin % 4096 := by have := HF.out; unfold first; omega
    exact span_eq rfl (by show _ = ((lin2 lin size : Nat) : Int); unfold lin2; rw [hfi]; omega) (by show _ = ((first lin size : Nat) : Int); rw [hfi]; omega) (by show _ = ((size - first lin size : Nat) : Int); rw [hfi]; omega)
end
end Go.Proofs.Ytknokiadbkgmaaa
