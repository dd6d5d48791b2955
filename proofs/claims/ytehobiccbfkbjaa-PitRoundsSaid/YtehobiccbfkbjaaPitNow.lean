/- pit: a counter's value. -/
import Derived.Test.YtehobiccbfkbjaaPitFns
import Derived.BigRegion
import Derived.Laws.EntriesVeiled
import Derived.Deep.RegionWith
import Derived.Deep.QuietTactic
import Derived.BigQuiet
import Derived.Deep.Cut
import Derived.Deep.CutRange
import Derived.Lib.Hide
namespace Go.Proofs.Ytehobiccbfkbjaa
open Go.RowKit
set_option linter.unusedVariables false

/-- A counter's value, of its mode, whether it stands, its length, when it began; at a time. -/
def nowv (m : Int) (st : Bool) (l g t : Int) : Int :=
  if st then l % 65536 else if m = 0 then (l - (t - g)) % 65536 else if m = 2 ∨ m = 3 then (l - (t - g) % l) % 65536 else l % 65536

theorem lt_of_cell {w : World} {b o : Nat} {v : Value} (h : w.cell? ⟨b, o, none⟩ = some v) : b < w.heap.size := World.block_lt_of_cell? _ _ h

def noFn : Obj := .cells #[.nilFunc, .nilFunc] 50
theorem in_a (w : World) : ((w.alloc (.map modeEs 3)).drew).heap[w.heap.size]? = some (.map modeEs 3) := heap_new w _
theorem in_b (w : World) : (((w.alloc (.map modeEs 3)).alloc (.cells #[.nilFunc, .nilFunc] 50)).drew).heap[w.heap.size]? = some (.map modeEs 3) := heap_alloc_lt (heap_new w _)
theorem in_c (w : World) : (((w.alloc (.cells #[.nilFunc, .nilFunc] 50)).alloc (.map modeEs 3)).drew).heap[w.heap.size + 1]? = some (.map modeEs 3) := by
  have := heap_new (w.alloc (.cells #[.nilFunc, .nilFunc] 50)) (.map modeEs 3)
  simp only [World.size_alloc] at this
  exact this

def selv (st : Bool) (a b : Int) : Int := if st then a else b
theorem selv_t {st : Bool} {a b : Int} (h : (!st) = false) : selv st a b = a := by cases st <;> simp_all [selv]
theorem selv_f {st : Bool} {a b : Int} (h : (!st) = true) : selv st a b = b := by cases st <;> simp_all [selv]
/-- What the table says of a mode. -/
def Hit (m : Int) (f0 f1 : Value) (is : Bool) : Prop := ∀ (n : Nat) (W : World), W.heap[n]? = some (.map modeEs 3) →
  (Instr.lookup 52 (.map (some n)) (.int .u8 m) true).run Try.prog W = .ok (.tuple #[.agg #[f0, f1], .bool is]) W

set_option maxHeartbeats 1000000 in
theorem now_hit (m : Int) (st : Bool) (l g t : Int) (b o : Nat) (w : World) (c0 : w.cell? ⟨b, o, none⟩ = some (.int .u8 m)) (c2 : w.cell? ⟨b, o + 2, none⟩ = some (.bool st))
    (c3 : w.cell? ⟨b, o + 3, none⟩ = some (.int .u64 l)) (c4 : w.cell? ⟨b, o + 4, none⟩ = some (.int .u64 g)) (h0 : 1 ≤ l) (h1 : l ≤ 65536) (h2 : 0 ≤ g) (h3 : g ≤ t) (h4 : t < 18446744073709551616)
    (x y : Nat) (hit : Hit m (.func (.func x) #[] #[]) (.func (.func y) #[] #[]) true) (r : Int)
    (hcf : ∀ (args : Array Value) (w : World), (callFunc x args).run Try.prog w = .ok (Next.enter x args) w)
    (hx : ∀ w, Calls Try.prog x #[.int .u64 l, .int .u64 (t - g)] w fun e w' => e = .returned (.int .u64 r) ∧ w = w') :
    Calls Try.prog 15 #[.pointer (some ⟨b, o, none⟩), .int .u64 t] w fun e w' => e = .returned (.int .u16 (selv st (l % 65536) (IntKind.u16.wrap r))) ∧ Below w.heap.size w w' := by
  have hlt := lt_of_cell c0
  have hlt1 : b < w.heap.size + 1 := by omega
  have hlt2 : b < w.heap.size + 1 + 1 := by omega
  have la := hit _ _ (in_a w)
  have lb := hit _ _ (in_b w)
  have lc := hit _ _ (in_c w)
  have HX := Lib.hid hx
  clear hit hx
  go_enter Try.func15, Try.ntmps15
  go_upto_region 1 with (fail)
  go_cut [5, 6] from 7 (fun s5 s6 wc => ∃ k, s5 = .pointer (some ⟨k, 0, none⟩) ∧ s6 = .bool true ∧ Below w.heap.size w wc ∧ wc.cell? ⟨k, 0, none⟩ = some (.func (.func x) #[] #[]) ∧ b < wc.heap.size)
  case first =>
    go_region_with (first | (go_at_call 13; refine (modes_any _).mono ?_; rintro e w2 ⟨rfl, rfl⟩))
    all_goals
      go_wp2_with fail
      go_meet
      exact ⟨_, rfl, rfl, by go_grown, by simp [go_sem], by simp; omega⟩
  case rest =>
    obtain ⟨k, rfl, rfl, hb, hk, hbl⟩ := hcut
    obtain ⟨hc, hf⟩ := bcell hb
    clear la lb lc
    have hsub : IntKind.u64.wrap (t - g) = t - g := IntWalk.u64_in _ (by omega)
    have hs0 : 0 ≤ t - g := by omega
    go_wp2_with fail
    · go_quiet ((exact Calls.quiet_of_same ((HX.out _).mono fun e w' h => ⟨h.1, h.2.symm⟩)))
      go_wp2_with fail
      go_ret
      have hst : (!st) = true := by assumption
      exact ⟨by rw [selv_f hst]; rfl, below_drewN hb _⟩
    · go_ret
      have hst : (!st) = false := by assumption
      exact ⟨by rw [selv_t hst]; rfl, hb⟩

theorem hit0 : Hit 0 (.func (.func 17) #[] #[]) (.func (.func 18) #[] #[]) true := look0
theorem hit2 : Hit 2 (.func (.func 16) #[] #[]) (.func (.func 19) #[] #[]) true := look2
theorem hit3 : Hit 3 (.func (.func 16) #[] #[]) (.func (.func 20) #[] #[]) true := look3
theorem cf1 (args : Array Value) (w : World) : (callFunc 16 args).run Try.prog w = .ok (Next.enter 16 args) w := by kernel_rfl
theorem cf2 (args : Array Value) (w : World) : (callFunc 17 args).run Try.prog w = .ok (Next.enter 17 args) w := by kernel_rfl
end Go.Proofs.Ytehobiccbfkbjaa
