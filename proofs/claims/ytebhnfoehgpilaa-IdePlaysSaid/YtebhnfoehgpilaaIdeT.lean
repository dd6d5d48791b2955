/- ide's laws: two lists of numbers that are one. -/
import Derived.Test.YtebhnfoehgpilaaIdeS
import Derived.BigQuiet
namespace Go.Proofs.Ytebhnfoehgpilaa
open Go.RowKit
set_option linter.unusedVariables false

/-- A slice that holds the numbers L. -/
def Nums (w : World) (v : Value) (L : List Nat) : Prop := ∃ a c, v = .slice a L.length c ∧ (L = [] ∨ ∃ g off, a = some ⟨g, off, none⟩ ∧ g < w.heap.size ∧ ∀ i, i < L.length → w.cell? ⟨g, off + i, none⟩ = some (.int .i64 (L.getD i 0 : Nat)))
set_option maxHeartbeats 2000000 in
theorem same_any {w : World} {v u : Value} {L : List Nat} (hv : Nums w v L) (hu : Nums w u L) (hL : L.length < 17592186044416) :
    Calls Try.prog 16 #[v, u] w fun e w' => e = .returned (.bool true) ∧ ∃ n, w' = w.drewN n := by
  obtain ⟨a, c, rfl, hv⟩ := hv
  obtain ⟨a2, c2, rfl, hu⟩ := hu
  obtain ⟨n, hn⟩ : ∃ n, n = L.length := ⟨_, rfl⟩
  rw [← hn] at hv hu hL ⊢
  have HN := Lib.hid hn
  clear hn
  have hn2 : (n : Int) ≤ 17592186044416 := by omega
  go_enter Try.func16, Try.ntmps16
  go_wp2_with fail
  go_loopw [5] (fun i wc => ∃ k : Nat, k ≤ n ∧ i = .int .i64 k ∧ ∃ m, wc = w.drewN m) (fun i _ => n - (intOf i).toNat)
  case atStart => exact ⟨0, by omega, rfl, 0, rfl⟩
  case round =>
    obtain ⟨k, hk, rfl, m, rfl⟩ := hrel
    by_cases hlt : k < n
    · have p1 : (0 : Int) ≤ (k : Int) := by omega
      have p2 : (k : Int) < n := by omega
      have hne : L ≠ [] := fun e => by have := HN.out; rw [e] at this; have e0 : n = 0 := this; omega
      obtain ⟨g, off, rfl, hg, hc⟩ := hv.resolve_left hne
      obtain ⟨g2, off2, rfl, hg2, hc2⟩ := hu.resolve_left hne
      have d1 := hc k hlt
      have d2 := hc2 k hlt
      generalize ((L.getD k 0 : Nat) : Int) = x at d1 d2
      clear hc hc2 hv hu hne
      go_upto_region 6 with (fail)
      have d3 : (w.drewN m).cell? ⟨g, off + k, none⟩ = some (.int .i64 x) := d1
      have d4 : (w.drewN m).cell? ⟨g2, off2 + k, none⟩ = some (.int .i64 x) := d2
      go_quiet (fail)
      go_wp2_with fail
      go_roundw
      case rel => exact ⟨k + 1, by omega, by go_num, _, rfl⟩
      case measure => (simp [intOf]) <;> omega
    · have p2 : (n : Int) ≤ k := by omega
      go_wp2_with fail
      go_ret
      exact ⟨rfl, m, rfl⟩
end Go.Proofs.Ytebhnfoehgpilaa
