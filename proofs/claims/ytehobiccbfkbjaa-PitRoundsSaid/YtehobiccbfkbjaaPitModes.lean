/- pit.modes: the table of what each mode does; the five functions in it; a look-up in it. -/
import Derived.Test.YtehobiccbfkbjaaRows
import Derived.Test.YtehobiccbfkbjaaObj
namespace Go.Proofs.Ytehobiccbfkbjaa
open Go.RowKit
set_option linter.unusedVariables false

def fnv (f : Nat) : Value := .func (.func f) #[] #[]
def modeEs : Array MapEntry := #[⟨.int .u8 0, .agg #[.func (.func 17) #[] #[], .func (.func 18) #[] #[]], 0⟩,
  ⟨.int .u8 2, .agg #[.func (.func 16) #[] #[], .func (.func 19) #[] #[]], 1⟩,
  ⟨.int .u8 3, .agg #[.func (.func 16) #[] #[], .func (.func 20) #[] #[]], 2⟩]

theorem mode_ins (X : World) (n : Nat) (hn : n = X.heap.size) (es : Array MapEntry) (ck : Nat) (a : Int) (v : Value) (hnew : Instr.findNow (.int .u8) (.int .u8 a) es.toList 0 = some none) :
    (Instr.mapUpdate 52 (.map (some n)) (.int .u8 a) v).run Try.prog (X.alloc (.map es ck)) = .ok () (X.alloc (.map (es.push ⟨.int .u8 a, v, ck⟩) (ck + 1))) := by
  subst hn
  have hb : (X.alloc (.map es ck)).heap[X.heap.size]? = some (.map es ck) := heap_new X _
  have hset : ({ (X.alloc (.map es ck)) with heap := (X.alloc (.map es ck)).heap.setIfInBounds X.heap.size (.map (es.push ⟨.int .u8 a, v, ck⟩) (ck + 1)) } : World) = X.alloc (.map (es.push ⟨.int .u8 a, v, ck⟩) (ck + 1)) := by
    simp only [World.alloc]
    congr 1
    apply Array.ext_getElem?
    intro k
    rw [Array.getElem?_setIfInBounds]
    simp only [Array.getElem?_push, Array.size_push]
    by_cases h : X.heap.size = k
    · subst h; simp
    · simp [h, Ne.symm h]
  have hk : Try.prog.underlying 5 = some (.int .u8) := Try.underlying5
  simp [Instr.mapUpdate, go_sem, MapKept.run_getObj_map hb, MapKept.run_checkKey hk (show MapKept.IsKey (.int .u8) (.int .u8 a) from rfl), MapKept.run_findKey hk hnew, MapKept.run_setObj_map _ hb]
  exact hset

set_option maxHeartbeats 1000000 in
theorem modes_any (w : World) : Calls Try.prog 13 #[] w fun e w' => e = .returned (.map (some w.heap.size)) ∧ w.alloc (.map modeEs 3) = w' := by
  have hmm := @run_makeMap Try.prog
  have u0 := fun (X : World) (n : Nat) (hn : n = X.heap.size) v => mode_ins X n hn #[] 0 0 v rfl
  have u1 := fun (X : World) (n : Nat) (hn : n = X.heap.size) v0 v => mode_ins X n hn #[⟨.int .u8 0, v0, 0⟩] 1 2 v rfl
  have u2 := fun (X : World) (n : Nat) (hn : n = X.heap.size) v0 v1 v => mode_ins X n hn #[⟨.int .u8 0, v0, 0⟩, ⟨.int .u8 2, v1, 1⟩] 2 3 v rfl
  simp only [List.push_toArray, List.nil_append, List.cons_append, Nat.reduceAdd] at u0 u1 u2
  go_enter Try.func13, Try.ntmps13
  go_wp2
  go_ret
  exact ⟨rfl, rfl⟩
end Go.Proofs.Ytehobiccbfkbjaa
