/- ram: New, Len, Rom. -/
import Derived.Test.YtfdeojefcfnogaaRamD
namespace Go.Proofs.Ytfdeojefcfnogaa
open Go.RowKit Go.MapKept
set_option linter.unusedVariables false

def RS.new (n : Nat) : RS := ⟨n, false, fun _ => 0, fun _ => false, fun _ => false, fun _ => false⟩
theorem RS.new_ok {n : Nat} (h1 : 1 ≤ n) (h2 : n ≤ 256) : (RS.new n).ok := ⟨h1, h2, fun _ => by show (0 : Nat) < 256; decide⟩
def RS.rom (R : RS) (k : Nat) (x : Bool) : RS := { R with only := fun m => if m = k then x else R.only m }
theorem RS.rom_ok {R : RS} (h : R.ok) (k : Nat) (x : Bool) : (R.rom k x).ok := ⟨h.p1, h.p2, h.b⟩
def romGood (R : RS) (n : Int) : Bool := decide (0 ≤ n) && decide (n < R.pages)

theorem heap_at (w : World) (o : Obj) (k : Nat) (h : k = w.heap.size) : (w.alloc o).heap[k]? = some o := by rw [h]; exact heap_new w o

set_option maxHeartbeats 1000000 in
theorem new_any (w : World) (n : Nat) (h1 : 1 ≤ n) (h2 : n ≤ 256) :
    Calls Try.prog 9 #[.int .i64 n] w fun e w' => ∃ b S, e = .returned (.tuple #[.pointer (some ⟨b, 0, .none⟩), .int .i64 0]) ∧ Ram w' b S (RS.new n) ∧ (∀ k, S k → w.heap.size ≤ k) ∧ Below w.heap.size w w' := by
  have hm : (n : Int) % 4294967296 = n := by omega
  have hmm : ∀ (t : TypeId) (w : World), (Instr.makeMap t none).run Try.prog w = .ok (.map (some w.heap.size)) (w.alloc (.map #[] 0)) := fun t w => by simp [Instr.makeMap, Result.andThen]
  go_enter Try.func9, Try.ntmps9
  go_wp2_with fail
  go_ret2
  have es : (RS.new n).size = n * 4096 := rfl
  let M : Obj := .map #[] 0
  let C : Obj := .cells #[.int .u32 (RS.new n).size, .map (some w.heap.size), .map (some (w.heap.size + 1)), .map (some (w.heap.size + 2)), .map (some (w.heap.size + 3)), .bool false] 61
  refine ⟨w.heap.size + 4, Owned (w.heap.size + 4) w.heap.size (w.heap.size + 1) (w.heap.size + 2) (w.heap.size + 3) (fun _ => .none), rfl, ⟨w.heap.size, w.heap.size + 1, w.heap.size + 2, w.heap.size + 3, fun _ => .none, ?_, fun k => Iff.rfl⟩, ?_, by go_grown⟩
  · have z : ∀ (o : Obj) (w : World), (w.alloc o).heap.size = w.heap.size + 1 := fun o w => by simp
    have m : ∀ (W : World) (k : Nat), W.heap[k]? = some M → MapAt W k .u32 (fun _ => .none) := fun W k h => ⟨#[], 0, h, stamped_empty 0, by simp, by simp⟩
    have g0 := heap_alloc_lt (o' := C) (heap_alloc_lt (o' := M) (heap_alloc_lt (o' := M) (heap_alloc_lt (o' := M) (heap_at w M w.heap.size rfl))))
    have g1 := heap_alloc_lt (o' := C) (heap_alloc_lt (o' := M) (heap_alloc_lt (o' := M) (heap_at (w.alloc M) M (w.heap.size + 1) (by simp only [z]))))
    have g2 := heap_alloc_lt (o' := C) (heap_alloc_lt (o' := M) (heap_at ((w.alloc M).alloc M) M (w.heap.size + 2) (by simp only [z])))
    have g3 := heap_alloc_lt (o' := C) (heap_at (((w.alloc M).alloc M).alloc M) M (w.heap.size + 3) (by simp only [z]))
    have g4 := heap_at ((((w.alloc M).alloc M).alloc M).alloc M) C (w.heap.size + 4) (by simp only [z])
    refine { obj := ?_, mp := m _ _ g0, mo := ⟨_, m _ _ g1, fun k => .inl ⟨rfl, rfl⟩⟩, mw := m _ _ g2, mn := m _ _ g3, page := fun k q h => (by cases h), zero := fun k h i hi => rfl, inj := fun k k' q h => (by cases h), inside := fun k q h => (by cases h), d1 := by omega, d2 := by omega, d3 := by omega, d4 := by omega, d5 := by omega, d6 := by omega, ok := RS.new_ok h1 h2 }
    exact g4
  · rintro k (rfl | rfl | rfl | rfl | rfl | ⟨j, hj⟩)
    · omega
    · omega
    · omega
    · omega
    · omega
    · cases hj
set_option maxHeartbeats 1000000 in
theorem new_bad (w : World) (n : Int) (h : n < 1 ∨ 256 < n) :
    Calls Try.prog 9 #[.int .i64 n] w fun e w' => e = .returned (.tuple #[.pointer .none, .int .i64 50]) ∧ w = w' := by
  rcases h with h | h
  all_goals
    go_enter Try.func9, Try.ntmps9
    go_wp2_with fail
    go_ret2
    exact ⟨rfl, rfl⟩
set_option maxHeartbeats 1000000 in
theorem len_any {w : World} {b : Nat} {S : Nat → Prop} {R : RS} (H : Ram w b S R) :
    Calls Try.prog 20 #[.pointer (some ⟨b, 0, .none⟩)] w fun e w' => e = .returned (.int .i64 (R.size : Nat)) ∧ w = w' := by
  obtain ⟨bp, bo, bw, bn, pg, I, hS⟩ := H
  obtain ⟨k0, -⟩ := I.facts
  have h2 := RS.size_le I.ok
  go_enter Try.func20, Try.ntmps20
  go_wp2_with fail
  go_ret
  exact ⟨rfl, rfl⟩
set_option maxRecDepth 20000 in
set_option maxHeartbeats 1000000 in
theorem rom_yes {w : World} {b : Nat} {S : Nat → Prop} {R : RS} (H : Ram w b S R) (n : Nat) (x : Bool) (h : n < R.pages) :
    Calls Try.prog 13 #[.pointer (some ⟨b, 0, .none⟩), .int .i64 n, .bool x] w fun e w' => e = .returned (.int .i64 0) ∧ Ram w' b S (R.rom n x) ∧ Keeps S w w' := by
  obtain ⟨bp, bo, bw, bn, pg, I, hS⟩ := H
  obtain ⟨k0, -, k2, -⟩ := I.facts
  have h2 := RS.size_le I.ok
  have hp := I.ok.p2
  have hsz : ((R.size : Nat) : Int) / 4096 = R.pages := by unfold RS.size; omega
  have hx : (n : Int) % 4294967296 = (n : Nat) := by omega
  obtain ⟨f, mo, hf⟩ := I.mo
  obtain ⟨W', hput, M, K⟩ := MapAt.update mo Try.underlying59 Try.underlying23 n _ rfl (.bool x)
  have MM : MarkAt W' bo (fun m => if m = n then x else R.only m) := ⟨_, M, fun m => by
    by_cases e : m = n
    · right; simp [e]
    · simp only [e, if_false]; exact hf m⟩
  have I' := I.turnOnly MM K
  have HI := Lib.hid I'
  clear I' MM M
  go_enter Try.func13, Try.ntmps13
  go_wp2_with fail
  go_returns
  exact ⟨rfl, ⟨bp, bo, bw, bn, pg, HI.out, hS⟩, K.mono fun k _ e => (hS k).2 (.inr (.inr (.inl e)))⟩
set_option maxRecDepth 20000 in
set_option maxHeartbeats 1000000 in
theorem rom_bad {w : World} {b : Nat} {S : Nat → Prop} {R : RS} (H : Ram w b S R) (n : Int) (x : Bool) (h : n < 0 ∨ (R.pages : Int) ≤ n) :
    Calls Try.prog 13 #[.pointer (some ⟨b, 0, .none⟩), .int .i64 n, .bool x] w fun e w' => e = .returned (.int .i64 1) ∧ w = w' := by
  obtain ⟨bp, bo, bw, bn, pg, I, hS⟩ := H
  obtain ⟨k0, -⟩ := I.facts
  have h2 := RS.size_le I.ok
  have hsz : ((R.size : Nat) : Int) / 4096 = R.pages := by unfold RS.size; omega
  by_cases h0 : n < 0
  · go_enter Try.func13, Try.ntmps13
    go_wp2_with fail
    go_returns
    exact ⟨rfl, rfl⟩
  · have h1 : (R.pages : Int) ≤ n := by omega
    go_enter Try.func13, Try.ntmps13
    go_wp2_with fail
    go_returns
    exact ⟨rfl, rfl⟩
def RS.romAt (R : RS) (n : Int) (x : Bool) : RS := if romGood R n then R.rom n.toNat x else R
def romErr (R : RS) (n : Int) : Int := if romGood R n then 0 else 1
theorem rom_any {w : World} {b : Nat} {S : Nat → Prop} {R : RS} (H : Ram w b S R) (n : Int) (x : Bool) :
    Calls Try.prog 13 #[.pointer (some ⟨b, 0, .none⟩), .int .i64 n, .bool x] w fun e w' => e = .returned (.int .i64 (romErr R n)) ∧ Ram w' b S (R.romAt n x) ∧ Keeps S w w' := by
  by_cases h : 0 ≤ n ∧ n < R.pages
  · obtain ⟨m, rfl⟩ := Int.eq_ofNat_of_zero_le h.1
    have e : romGood R (m : Int) = true := by unfold romGood; simp; omega
    unfold romErr RS.romAt
    rw [e]
    exact rom_yes H m x (by omega)
  · have e : romGood R n = false := by unfold romGood; simp; omega
    refine (rom_bad H n x (by omega)).mono ?_
    rintro r w' ⟨rfl, rfl⟩
    unfold romErr RS.romAt
    rw [e]
    exact ⟨rfl, H, Keeps.refl _ _⟩
end Go.Proofs.Ytfdeojefcfnogaa
