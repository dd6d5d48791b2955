/- Steps of a proof: RamE, RamF, FindA, FindFF, together. -/
import Derived.Test.YtmpcafdgkbpneaaGreatS1
import Derived.Deep.RegionHeld3
import Derived.Laws.CopyOwn
import Derived.Laws.MakeOwn
import Derived.LoopN
import Derived.StillTailTactics
/- ram: New, Len, Rom. -/
set_option maxHeartbeats 8000000
set_option maxRecDepth 20000
namespace Go.Proofs.YtmpcafdgkbpneaaGreat
open Go.RowKit Go.MapKept
set_option linter.unusedVariables false

def RS.new (n : Nat) : RS := ⟨n, false, fun _ => 0, fun _ => false, fun _ => false, fun _ => false⟩
theorem RS.new_ok {n : Nat} (h1 : 1 ≤ n) (h2 : n ≤ 256) : (RS.new n).ok := ⟨h1, h2, fun _ => by show (0 : Nat) < 256; decide⟩
def RS.rom (R : RS) (k : Nat) (x : Bool) : RS := { R with only := fun m => if m = k then x else R.only m }
def romGood (R : RS) (n : Int) : Bool := decide (0 ≤ n) && decide (n < R.pages)

theorem heap_at (w : World) (o : Obj) (k : Nat) (h : k = w.heap.size) : (w.alloc o).heap[k]? = some o := by rw [h]; exact heap_new w o

theorem new_any (w : World) (n : Nat) (h1 : 1 ≤ n) (h2 : n ≤ 256) :
    Calls Tryz.prog 67 #[.int .i64 n] w fun e w' => ∃ b S, e = .returned (.tuple #[.pointer (some ⟨b, 0, .none⟩), .int .i64 0]) ∧ Ram w' b S (RS.new n) ∧ (∀ k, S k → w.heap.size ≤ k) ∧ Below w.heap.size w w' := by
 have hm : (n : Int) % 4294967296 = n := by omega
 have hmm : ∀ (t : TypeId) (w : World), (Instr.makeMap t none).run Tryz.prog w = .ok (.map (some w.heap.size)) (w.alloc (.map #[] 0)) := fun t w => by simp [Instr.makeMap, Result.andThen]
 go_enter Tryz.func67, Tryz.ntmps67
 go_wp2_with fail
 go_ret2
 have es : (RS.new n).size = n * 4096 := rfl
 let M : Obj := .map #[] 0
 let C : Obj := .cells #[.int .u32 (RS.new n).size, .map (some w.heap.size), .map (some (w.heap.size + 1)), .map (some (w.heap.size + 2)), .map (some (w.heap.size + 3)), .bool false] 152
 refine ⟨w.heap.size + 4, Owned (w.heap.size + 4) w.heap.size (w.heap.size + 1) (w.heap.size + 2) (w.heap.size + 3) (fun _ => .none), rfl, ⟨w.heap.size, w.heap.size + 1, w.heap.size + 2, w.heap.size + 3, fun _ => .none, ?_, fun k => Iff.rfl⟩, ?_, by go_grown⟩
 ·have z : ∀ (o : Obj) (w : World), (w.alloc o).heap.size = w.heap.size + 1 := fun o w => by simp
  have m : ∀ (W : World) (k : Nat), W.heap[k]? = some M → MapAt W k .u32 (fun _ => .none) := fun W k h => ⟨#[], 0, h, stamped_empty 0, by simp, by simp⟩
  have g0 := heap_alloc_lt (o' := C) (heap_alloc_lt (o' := M) (heap_alloc_lt (o' := M) (heap_alloc_lt (o' := M) (heap_at w M w.heap.size rfl))))
  have g1 := heap_alloc_lt (o' := C) (heap_alloc_lt (o' := M) (heap_alloc_lt (o' := M) (heap_at (w.alloc M) M (w.heap.size + 1) (by simp only [z]))))
  have g2 := heap_alloc_lt (o' := C) (heap_alloc_lt (o' := M) (heap_at ((w.alloc M).alloc M) M (w.heap.size + 2) (by simp only [z])))
  have g3 := heap_alloc_lt (o' := C) (heap_at (((w.alloc M).alloc M).alloc M) M (w.heap.size + 3) (by simp only [z]))
  have g4 := heap_at ((((w.alloc M).alloc M).alloc M).alloc M) C (w.heap.size + 4) (by simp only [z])
  refine { obj := ?_, mp := m _ _ g0, mo := ⟨_, m _ _ g1, fun k => .inl ⟨rfl, rfl⟩⟩, mw := m _ _ g2, mn := m _ _ g3, page := fun k q h => (by cases h), zero := fun k h i hi => rfl, inj := fun k k' q h => (by cases h), inside := fun k q h => (by cases h), d1 := by omega, d2 := by omega, d3 := by omega, d4 := by omega, d5 := by omega, d6 := by omega, ok := RS.new_ok h1 h2 }
  exact g4
 ·rintro k (rfl | rfl | rfl | rfl | rfl | ⟨j, hj⟩)
  ·omega
  ·omega
  ·omega
  ·omega
  ·omega
  ·cases hj
theorem rom_yes {w : World} {b : Nat} {S : Nat → Prop} {R : RS} (H : Ram w b S R) (n : Nat) (x : Bool) (h : n < R.pages) :
    Calls Tryz.prog 71 #[.pointer (some ⟨b, 0, .none⟩), .int .i64 n, .bool x] w fun e w' => e = .returned (.int .i64 0) ∧ Ram w' b S (R.rom n x) ∧ Keeps S w w' := by
 obtain ⟨bp, bo, bw, bn, pg, I, hS⟩ := H
 obtain ⟨k0, -, k2, -⟩ := I.facts
 have h2 := RS.size_le I.ok
 have hp := I.ok.p2
 have hsz : ((R.size : Nat) : Int) / 4096 = R.pages := by unfold RS.size; omega
 have hx : (n : Int) % 4294967296 = (n : Nat) := by omega
 obtain ⟨f, mo, hf⟩ := I.mo
 obtain ⟨W', hput, M, K⟩ := MapAt.update mo Tryz.underlying150 Tryz.underlying22 n _ rfl (.bool x)
 have MM : MarkAt W' bo (fun m => if m = n then x else R.only m) := ⟨_, M, fun m => by
  by_cases e : m = n
  ·right; simp [e]
  ·simp only [e, if_false]; exact hf m⟩
 have I' := I.turnOnly MM K
 have HI := Lib.hid I'
 clear I' MM M
 go_enter Tryz.func71, Tryz.ntmps71
 go_wp2_with fail
 go_returns
 exact ⟨rfl, ⟨bp, bo, bw, bn, pg, HI.out, hS⟩, K.mono fun k _ e => (hS k).2 (.inr (.inr (.inl e)))⟩
theorem rom_bad {w : World} {b : Nat} {S : Nat → Prop} {R : RS} (H : Ram w b S R) (n : Int) (x : Bool) (h : n < 0 ∨ (R.pages : Int) ≤ n) :
    Calls Tryz.prog 71 #[.pointer (some ⟨b, 0, .none⟩), .int .i64 n, .bool x] w fun e w' => e = .returned (.int .i64 1) ∧ w = w' := by
 obtain ⟨bp, bo, bw, bn, pg, I, hS⟩ := H
 obtain ⟨k0, -⟩ := I.facts
 have h2 := RS.size_le I.ok
 have hsz : ((R.size : Nat) : Int) / 4096 = R.pages := by unfold RS.size; omega
 by_cases h0 : n < 0
 ·go_enter Tryz.func71, Tryz.ntmps71
  go_wp2_with fail
  go_returns
  exact ⟨rfl, rfl⟩
 ·have h1 : (R.pages : Int) ≤ n := by omega
  go_enter Tryz.func71, Tryz.ntmps71
  go_wp2_with fail
  go_returns
  exact ⟨rfl, rfl⟩
def RS.romAt (R : RS) (n : Int) (x : Bool) : RS := if romGood R n then R.rom n.toNat x else R
def romErr (R : RS) (n : Int) : Int := if romGood R n then 0 else 1
theorem rom_any {w : World} {b : Nat} {S : Nat → Prop} {R : RS} (H : Ram w b S R) (n : Int) (x : Bool) :
    Calls Tryz.prog 71 #[.pointer (some ⟨b, 0, .none⟩), .int .i64 n, .bool x] w fun e w' => e = .returned (.int .i64 (romErr R n)) ∧ Ram w' b S (R.romAt n x) ∧ Keeps S w w' := by
 by_cases h : 0 ≤ n ∧ n < R.pages
 ·obtain ⟨m, rfl⟩ := Int.eq_ofNat_of_zero_le h.1
  have e : romGood R (m : Int) = true := by unfold romGood; simp; omega
  unfold romErr RS.romAt
  rw [e]
  exact rom_yes H m x (by omega)
 ·have e : romGood R n = false := by unfold romGood; simp; omega
  refine (rom_bad H n x (by omega)).mono ?_
  rintro r w' ⟨rfl, rfl⟩
  unfold romErr RS.romAt
  rw [e]
  exact ⟨rfl, H, Keeps.refl _ _⟩
end Go.Proofs.YtmpcafdgkbpneaaGreat

/- ram: Dump. -/
namespace Go.Proofs.YtmpcafdgkbpneaaGreat
open Go.RowKit Go.MapKept
set_option linter.unusedVariables false

theorem Ram.set {w : World} {b : Nat} {S : Nat → Prop} {R : RS} (H : Ram w b S R) {g : Nat} (hg : ¬ S g) (k : Nat) (v : Value) : Ram (w.setCell ⟨g, k, .none⟩ v) b S R :=
 H.keeps ((Keeps.refl (· = g) w).setOne k v) fun j hj e => hg (by rw [← e]; exact hj)
theorem below_dn {B : Nat} {w a : World} (h : Below B w a) (n : Nat) : Below B w (a.drewN n) := ⟨h.os, h.tape, h.output, h.size, h.block⟩
def fresh (n : Nat) (z : Value) : Array Value := Array.replicate n z
theorem made_fresh (z : Value) (n : Nat) (hz : z.cells = #[z]) : madeCells z.cells (n * 1) = fresh n z := by
 rw [hz]
 apply Array.ext_getElem?
 intro j
 unfold madeCells fresh
 simp [Array.getElem?_replicate, Array.getElem?_map, Array.getElem?_range]
 by_cases h : j < n <;> simp [h, Nat.mod_one]
theorem make_run (w : World) (T E : TypeId) (z : Value) (bytes n : Nat) (hT : Tryz.prog.underlying T = some (.slice E)) (hi : (Tryz.prog.info? E).map (fun i => (i.zero, i.size, i.bytes)) = some (some z, 1, bytes)) (hz : z.cells = #[z])
    (hb : bytes * n ≤ 281474976710656) (hn : n ≤ 9223372036854775807) (x y : Int) (hx : x = (n : Int)) (hy : y = (n : Int)) :
    (Instr.makeSlice T (.int .i64 x) (.int .i64 y)).run Tryz.prog w = .ok (.slice (some ⟨w.heap.size, 0, .none⟩) n n) (w.alloc (.cells (fresh n z) E)) := by
 subst hx hy
 cases h : Tryz.prog.info? E with
 | none => rw [h] at hi; cases hi
 | some i =>
  rw [h] at hi
  simp only [Option.map_some, Option.some.injEq, Prod.mk.injEq] at hi
  obtain ⟨h1, h2, h3⟩ := hi
  have hb' : (i.bytes : Int) * (n : Int) ≤ 281474976710656 := by
   have : ((bytes * n : Nat) : Int) ≤ 281474976710656 := by omega
   rw [h3]; rwa [Int.natCast_mul] at this
  have := run_make (P := Tryz.prog) w T E i z hT h h1 .i64 .i64 (n : Int) (n : Int) (by omega) (Int.le_refl _) hb' (by omega)
  rw [this, h2, Int.toNat_natCast, made_fresh z n hz]
theorem make_bytes (w : World) (n : Nat) (h : n ≤ 281474976710656) (x y : Int) (hx : x = (n : Int)) (hy : y = (n : Int)) :
    (Instr.makeSlice 97 (.int .i64 x) (.int .i64 y)).run Tryz.prog w = .ok (.slice (some ⟨w.heap.size, 0, .none⟩) n n) (w.alloc (.cells (fresh n (.int .u8 0)) 5)) :=
 make_run w _ _ _ 1 n Tryz.underlying97 (by kernel_rfl) rfl (by omega) (by omega) x y hx hy

end Go.Proofs.YtmpcafdgkbpneaaGreat

/- page.Find. -/
namespace Go.Proofs.YtmpcafdgkbpneaaGreat
open Go.RowKit Go.MapKept
set_option linter.unusedVariables false

structure WalkR where
 frame : Nat
 pde : Nat
 pte : Nat
 w : Bool
 u : Bool
def WalkR.val (x : WalkR) : Value := .agg #[.int .u32 x.frame, .int .u32 x.pde, .int .u32 x.pte, .bool x.w, .bool x.u]
def walk0 : WalkR := ⟨0, 0, 0, false, false⟩
def pdeOf (cr3 lin : Nat) : Nat := cr3 / 4096 * 4096 + lin / 4194304 * 4
def pteOf (one lin : Nat) : Nat := one / 4096 * 4096 + lin / 4096 % 1024 * 4
def codeOf (wr us : Bool) : Int := (if wr then 2 else 0) + (if us then 4 else 0)
def RS.mark (R : RS) (a m : Nat) : RS := if R.read a 4 ||| m = R.read a 4 then R else R.write a (R.read a 4 ||| m) 4
def bad (w u wr us wp : Bool) : Bool := us && !u || wr && !w && (us || wp)
def find (R : RS) (cr3 lin : Nat) (wr us wp : Bool) : WalkR × Int × RS :=
 if R.read (pdeOf cr3 lin) 4 % 2 = 0 then (walk0, codeOf wr us, R) else
 if R.read (pteOf (R.read (pdeOf cr3 lin) 4) lin) 4 % 2 = 0 then (walk0, codeOf wr us, R) else
 let one := R.read (pdeOf cr3 lin) 4
 let pte := pteOf one lin
 let two := R.read pte 4
 let w := one / 2 % 2 == 1 && two / 2 % 2 == 1
 let u := one / 4 % 2 == 1 && two / 4 % 2 == 1
 if bad w u wr us wp then (walk0, codeOf wr us + 1, R) else
 (⟨two / 4096 * 4096, pdeOf cr3 lin, pte, w, u⟩, -1, (R.mark (pdeOf cr3 lin) 32).mark pte (if wr then 96 else 32))

theorem a4095 (x : Nat) (h : x < 4294967296) : bits .andNot .u32 (x : Int) 4095 = ((x / 4096 * 4096 : Nat) : Int) := by
 have e := u32_andNot_nat x 4095 h (by decide)
 rw [show ((4095 : Nat) : Int) = 4095 from rfl] at e
 rw [e]
 congr 1
 have h2 : x &&& (4294967295 - 4095) = 2 ^ 12 * (x / 2 ^ 12) + 0 := by
  refine Nat.eq_of_testBit_eq fun j => ?_
  rw [Nat.testBit_and, Nat.testBit_two_pow_mul_add _ (by decide), Nat.testBit_div_two_pow]
  by_cases hj : j < 32
  ·have hh : ∀ j : Fin 32, (4294967295 - 4095 : Nat).testBit j.val = !decide (j.val < 12) := by decide +kernel
   rw [hh ⟨j, hj⟩]
   by_cases h1 : j < 12
   ·simp [h1]
   ·rw [if_neg h1, decide_eq_false h1, show j - 12 + 12 = j by omega]; simp
  ·have hz : x.testBit j = false := Nat.testBit_lt_two_pow (Nat.lt_of_lt_of_le h (Nat.pow_le_pow_right (n := 2) (by decide) (by omega) : 2 ^ 32 ≤ 2 ^ j))
   rw [hz, if_neg (by omega), show j - 12 + 12 = j by omega, hz]; simp
 rw [h2]; omega
theorem s22 (lin : Nat) (h : lin < 4294967296) : bits .and .u32 ((lin : Int) / 4194304) 1023 = ((lin / 4194304 : Nat) : Int) := by
 have e := u32_and_nat (lin / 4194304) 1023 (by omega) (by decide)
 rw [nat_mask10, Nat.mod_eq_of_lt (by omega)] at e
 rw [← e]; rfl
theorem s12 (lin : Nat) (h : lin < 4294967296) : bits .and .u32 ((lin : Int) / 4096) 1023 = ((lin / 4096 % 1024 : Nat) : Int) := by
 have e := u32_and_nat (lin / 4096) 1023 (by omega) (by decide)
 rw [nat_mask10] at e
 rw [← e]; rfl
theorem and_all (x : Nat) (h : x < 4294967296) : bits .and .u32 4294967295 (x : Int) = (x : Int) := by
 have e := u32_and_nat 4294967295 x (by decide) h
 have h2 : 4294967295 &&& x = x := by rw [Nat.and_comm]; exact (Nat.and_two_pow_sub_one_eq_mod x 32).trans (Nat.mod_eq_of_lt h)
 rw [h2] at e
 exact e
theorem and_1 (x : Nat) (h : x < 4294967296) : bits .and .u32 (x : Int) 1 = ((x % 2 : Nat) : Int) := by
 have e := u32_and_nat x 1 h (by decide)
 rw [nat_mask1] at e
 rw [← e]; rfl
theorem and_2 (x : Nat) (h : x < 4294967296) : bits .and .u32 (x : Int) 2 = ((x / 2 % 2 * 2 : Nat) : Int) := by
 have e := u32_and_nat x 2 h (by decide)
 have := nat_bit 1 x
 rw [show (2 : Nat) ^ 1 = 2 from rfl] at this
 rw [this] at e
 rw [← e]; rfl
theorem and_4 (x : Nat) (h : x < 4294967296) : bits .and .u32 (x : Int) 4 = ((x / 4 % 2 * 4 : Nat) : Int) := by
 have e := u32_and_nat x 4 h (by decide)
 have := nat_bit 2 x
 rw [show (2 : Nat) ^ 2 = 4 from rfl] at this
 rw [this] at e
 rw [← e]; rfl
theorem and_bit (x y i : Nat) : ((x &&& y) / 2 ^ i % 2 == 1) = (x / 2 ^ i % 2 == 1 && y / 2 ^ i % 2 == 1) := by
 have h := Nat.testBit_and x y i
 rw [Nat.testBit_eq_decide_div_mod_eq, Nat.testBit_eq_decide_div_mod_eq, Nat.testBit_eq_decide_div_mod_eq] at h
 rw [Bool.eq_iff_iff] at h ⊢
 simp at h ⊢
 exact h
theorem bit_ne (x m : Nat) (hm : 0 < m) : (((x % 2 * m : Nat) : Int) != 0) = (x % 2 == 1) := by
 rcases Nat.mod_two_eq_zero_or_one x with h | h
 ·rw [h]; simp
 ·rw [h, Nat.one_mul]; simp; omega
theorem pde_lt (cr3 lin : Nat) (hc : cr3 < 4294967296) (hl : lin < 4294967296) : pdeOf cr3 lin < 4294967296 := by unfold pdeOf; omega
theorem pte_lt (one lin : Nat) (hc : one < 4294967296) : pteOf one lin < 4294967296 := by unfold pteOf; omega
def FindEnd (w : World) (b : Nat) (S : Nat → Prop) (r : WalkR × Int × RS) (e : Ending) (w' : World) : Prop :=
 e = .returned (.tuple #[r.1.val, .int .i64 r.2.1, .int .i64 0]) ∧ ∃ S', Ram w' b S' r.2.2 ∧ Moves S S' w w'

theorem both_bit (x y : Nat) (h : ¬ x % 2 = 0) : (x &&& y) % 2 = y % 2 := by
 have hx : x % 2 = 1 := by omega
 have h1 := and_bit x y 0
 simp only [Nat.pow_zero, Nat.div_one, hx] at h1
 rcases Nat.mod_two_eq_zero_or_one (x &&& y) with a | a <;> rcases Nat.mod_two_eq_zero_or_one y with c | c <;> (rw [a, c] at h1) <;> (first | (simp at h1; done) | (rw [a, c]))
theorem setCell_heap (w : World) (b k : Nat) (v : Value) : (w.setCell ⟨b, k, .none⟩ v).heap = w.heap.modify b (putObj k v) := by
 unfold World.setCell
 congr 1
theorem heap_drewN' (w : World) (n : Nat) : (w.drewN n).heap = w.heap := rfl
theorem alloc_heap' (w : World) (o : Obj) : (w.alloc o).heap = w.heap.push o := rfl
structure FHeld (wr : World) (A M X Z P T m : Nat) (x : WalkR) : Prop where
 a : wr.heap[A]? = some (.cells #[.int .u32 P, .int .u32 T] 194)
 m : wr.heap[M]? = some (.cells #[.int .u32 32, .int .u32 m] 194)
 x : wr.heap[X]? = some (.cells #[.int .u32 x.frame, .int .u32 x.pde, .int .u32 x.pte, .bool x.w, .bool x.u] 287)
 z : wr.heap[Z]? = some (.cells #[.int .u32 0, .int .u32 0, .int .u32 0, .bool false, .bool false] 287)
theorem FHeld.keeps {wr w' : World} {A M X Z P T m : Nat} {x : WalkR} (h : FHeld wr A M X Z P T m x) {S : Nat → Prop} (k : Keeps S wr w') (n : ∀ i, S i → i ≠ A ∧ i ≠ M ∧ i ≠ X ∧ i ≠ Z) : FHeld w' A M X Z P T m x :=
 ⟨heap_keeps k (fun hs => (n _ hs).1 rfl) h.a, heap_keeps k (fun hs => (n _ hs).2.1 rfl) h.m, heap_keeps k (fun hs => (n _ hs).2.2.1 rfl) h.x, heap_keeps k (fun hs => (n _ hs).2.2.2 rfl) h.z⟩
theorem FHeld.quiet {wr : World} {A M X Z P T m : Nat} {x : WalkR} (h : FHeld wr A M X Z P T m x) (n : Nat) : FHeld (wr.drewN n) A M X Z P T m x := ⟨h.a, h.m, h.x, h.z⟩
def sets5 (w : World) (b : Nat) (v0 v1 v2 v3 v4 : Value) : World := ((((w.setCell ⟨b, 0, .none⟩ v0).setCell ⟨b, 1, .none⟩ v1).setCell ⟨b, 2, .none⟩ v2).setCell ⟨b, 3, .none⟩ v3).setCell ⟨b, 4, .none⟩ v4
theorem cell_sets {w : World} {b : Nat} {a0 a1 a2 a3 a4 : Value} {T : TypeId} (h : w.heap[b]? = some (.cells #[a0, a1, a2, a3, a4] T (0, 0))) (v0 v1 v2 v3 v4 : Value) :
    (sets5 w b v0 v1 v2 v3 v4).cell? ⟨b, 0, .none⟩ = some v0 ∧ (sets5 w b v0 v1 v2 v3 v4).cell? ⟨b, 1, .none⟩ = some v1 ∧ (sets5 w b v0 v1 v2 v3 v4).cell? ⟨b, 2, .none⟩ = some v2 ∧ (sets5 w b v0 v1 v2 v3 v4).cell? ⟨b, 3, .none⟩ = some v3 ∧ (sets5 w b v0 v1 v2 v3 v4).cell? ⟨b, 4, .none⟩ = some v4 := by
 have h0 : w.heap[b]? = some (.cells [a0, a1, a2, a3, a4].toArray T (0, 0)) := h
 have h1 : (w.setCell ⟨b, 0, .none⟩ v0).heap[b]? = some (.cells [v0, a1, a2, a3, a4].toArray T (0, 0)) := by rw [heap_set_map, h0]; rfl
 have h2 : ((w.setCell ⟨b, 0, .none⟩ v0).setCell ⟨b, 1, .none⟩ v1).heap[b]? = some (.cells [v0, v1, a2, a3, a4].toArray T (0, 0)) := by rw [heap_set_map, h1]; rfl
 have h3 : (((w.setCell ⟨b, 0, .none⟩ v0).setCell ⟨b, 1, .none⟩ v1).setCell ⟨b, 2, .none⟩ v2).heap[b]? = some (.cells [v0, v1, v2, a3, a4].toArray T (0, 0)) := by rw [heap_set_map, h2]; rfl
 have h4 : ((((w.setCell ⟨b, 0, .none⟩ v0).setCell ⟨b, 1, .none⟩ v1).setCell ⟨b, 2, .none⟩ v2).setCell ⟨b, 3, .none⟩ v3).heap[b]? = some (.cells [v0, v1, v2, v3, a4].toArray T (0, 0)) := by rw [heap_set_map, h3]; rfl
 have h5 : (sets5 w b v0 v1 v2 v3 v4).heap[b]? = some (.cells [v0, v1, v2, v3, v4].toArray T (0, 0)) := by unfold sets5; rw [heap_set_map, h4]; rfl
 refine ⟨?_, ?_, ?_, ?_, ?_⟩ <;> (rw [cell_at h5]; rfl)
def marks (R : RS) (P T m k : Nat) : RS := if k = 0 then R else if k = 1 then R.mark P 32 else (R.mark P 32).mark T m
theorem marks_zero (R : RS) (P T m : Nat) : marks R P T m 0 = R := if_pos rfl
theorem marks_one (R : RS) (P T m : Nat) : marks R P T m 1 = R.mark P 32 := by unfold marks; rw [if_neg (by decide), if_pos rfl]
theorem marks_two (R : RS) (P T m : Nat) : marks R P T m 2 = (R.mark P 32).mark T m := by unfold marks; rw [if_neg (by decide), if_neg (by decide)]
structure FRel (w wr : World) (b : Nat) (S : Nat → Prop) (A M X Z P T m : Nat) (x : WalkR) (R : RS) : Prop where
 r : ∃ S', Ram wr b S' R ∧ Moves S S' w wr ∧ ∀ i, S' i → i ≠ A ∧ i ≠ M ∧ i ≠ X ∧ i ≠ Z
 h : FHeld wr A M X Z P T m x
theorem Moves.ofBelow {S : Nat → Prop} {w w' : World} (hb : Below w.heap.size w w') : Moves S S w w' := ⟨Keeps.ofBelow hb, fun k h => .inl h⟩
section
variable {w w' : World} {b : Nat} {S : Nat → Prop} {R : RS} {cr3 lin one two : Nat} {wr us wp : Bool}
theorem find_no (H : Ram w b S R) (h1 : one % 2 = 0) (hone : R.read (pdeOf cr3 lin) 4 = one) (hb : Below w.heap.size w w') :
    FindEnd w b S (find R cr3 lin wr us wp) (.returned (.tuple #[walk0.val, .int .i64 (codeOf wr us), .int .i64 0])) w' := by
 have e : find R cr3 lin wr us wp = (walk0, codeOf wr us, R) := by unfold find; rw [hone, if_pos h1]
 rw [e]
 exact ⟨rfl, S, H.below hb, Moves.ofBelow hb⟩
theorem find_no2 (H : Ram w b S R) (h1 : ¬ one % 2 = 0) (hone : R.read (pdeOf cr3 lin) 4 = one) (h2 : two % 2 = 0) (htwo : R.read (pteOf one lin) 4 = two) (hb : Below w.heap.size w w') :
    FindEnd w b S (find R cr3 lin wr us wp) (.returned (.tuple #[walk0.val, .int .i64 (codeOf wr us), .int .i64 0])) w' := by
 have e : find R cr3 lin wr us wp = (walk0, codeOf wr us, R) := by unfold find; rw [hone, if_neg h1, htwo, if_pos h2]
 rw [e]
 exact ⟨rfl, S, H.below hb, Moves.ofBelow hb⟩
end
theorem mark_same (R : RS) (a m : Nat) (h : R.read a 4 ||| m = R.read a 4) : R.mark a m = R := by unfold RS.mark; rw [if_pos h]
theorem mark_new (R : RS) (a m : Nat) (h : ¬ R.read a 4 ||| m = R.read a 4) : R.mark a m = R.write a (R.read a 4 ||| m) 4 := by unfold RS.mark; rw [if_neg h]
theorem FRel.wrote {w wr w' : World} {b : Nat} {S S' S'' : Nat → Prop} {A M X Z P T m : Nat} {x : WalkR} {R' : RS} (hh : FHeld wr A M X Z P T m x) (Mv : Moves S S' w wr) (n' : ∀ i, S' i → i ≠ A ∧ i ≠ M ∧ i ≠ X ∧ i ≠ Z)
    (H' : Ram w' b S'' R') (Mw : Moves S' S'' wr w') : FRel w w' b S A M X Z P T m x R' := by
 refine ⟨⟨S'', H', Mv.trans Mw, fun i hi => ?_⟩, hh.keeps Mw.1 n'⟩
 rcases Mw.2 i hi with h | h
 ·exact n' i h
 ·have h1 := heap_lt hh.a
  have h2 := heap_lt hh.m
  have h3 := heap_lt hh.x
  have h4 := heap_lt hh.z
  omega
theorem find_bad {w w' : World} {b : Nat} {S : Nat → Prop} {R : RS} {cr3 lin one two : Nat} {wr us wp wB uB : Bool} (H : Ram w b S R) (h1 : ¬ one % 2 = 0) (hone : R.read (pdeOf cr3 lin) 4 = one) (h2 : ¬ two % 2 = 0) (htwo : R.read (pteOf one lin) 4 = two)
    (hw : wB = (one / 2 % 2 == 1 && two / 2 % 2 == 1)) (hu : uB = (one / 4 % 2 == 1 && two / 4 % 2 == 1)) (hbad : bad wB uB wr us wp = true) (hb : Below w.heap.size w w') :
    FindEnd w b S (find R cr3 lin wr us wp) (.returned (.tuple #[walk0.val, .int .i64 (codeOf wr us + 1), .int .i64 0])) w' := by
 have e : find R cr3 lin wr us wp = (walk0, codeOf wr us + 1, R) := by
  unfold find
  simp only [hone, htwo, if_neg h1, if_neg h2, ← hw, ← hu, hbad, if_true]
 rw [e]
 exact ⟨rfl, S, H.below hb, Moves.ofBelow hb⟩
theorem Moves.sets5 {S S' : Nat → Prop} {w w1 : World} (M : Moves S S' w w1) {g : Nat} (hg : w.heap.size ≤ g) (i1 i2 i3 i4 i5 : Nat) (v1 v2 v3 v4 v5 : Value) :
    Moves S S' w (((((w1.setCell ⟨g, i1, .none⟩ v1).setCell ⟨g, i2, .none⟩ v2).setCell ⟨g, i3, .none⟩ v3).setCell ⟨g, i4, .none⟩ v4).setCell ⟨g, i5, .none⟩ v5) :=
 ⟨((((M.1.setCell (.inr hg) _).setCell (.inr hg) _).setCell (.inr hg) _).setCell (.inr hg) _).setCell (.inr hg) _, M.2⟩
theorem find_good {w w' : World} {b : Nat} {S S' : Nat → Prop} {R : RS} {cr3 lin one two : Nat} {wr us wp wB uB : Bool} (h1 : ¬ one % 2 = 0) (hone : R.read (pdeOf cr3 lin) 4 = one) (h2 : ¬ two % 2 = 0) (htwo : R.read (pteOf one lin) 4 = two)
    (hw : wB = (one / 2 % 2 == 1 && two / 2 % 2 == 1)) (hu : uB = (one / 4 % 2 == 1 && two / 4 % 2 == 1)) (hbad : bad wB uB wr us wp = false)
    (H' : Ram w' b S' (marks R (pdeOf cr3 lin) (pteOf one lin) (if wr then 96 else 32) 2)) (Mv : Moves S S' w w') :
    FindEnd w b S (find R cr3 lin wr us wp) (.returned (.tuple #[WalkR.val ⟨two / 4096 * 4096, pdeOf cr3 lin, pteOf one lin, wB, uB⟩, .int .i64 (-1), .int .i64 0])) w' := by
 have e : find R cr3 lin wr us wp = (⟨two / 4096 * 4096, pdeOf cr3 lin, pteOf one lin, wB, uB⟩, -1, marks R (pdeOf cr3 lin) (pteOf one lin) (if wr then 96 else 32) 2) := by
  rw [marks_two]
  unfold find
  simp only [hone, htwo, if_neg h1, if_neg h2, ← hw, ← hu, hbad, Bool.false_eq_true, if_false]
 rw [e]
 exact ⟨rfl, S', H', Mv⟩

theorem find_good' {w w' : World} {b : Nat} {S S' : Nat → Prop} {R : RS} {cr3 lin one two P T : Nat} {wr us wp wB uB : Bool} (hP : pdeOf cr3 lin = P) (hT : pteOf one lin = T) (h1 : ¬ one % 2 = 0) (hone : R.read P 4 = one) (h2 : ¬ two % 2 = 0) (htwo : R.read T 4 = two)
    (hw : wB = (one / 2 % 2 == 1 && two / 2 % 2 == 1)) (hu : uB = (one / 4 % 2 == 1 && two / 4 % 2 == 1)) (hbad : bad wB uB wr us wp = false)
    (H' : Ram w' b S' (marks R P T (if wr then 96 else 32) 2)) (Mv : Moves S S' w w') :
    FindEnd w b S (find R cr3 lin wr us wp) (.returned (.tuple #[WalkR.val ⟨two / 4096 * 4096, P, T, wB, uB⟩, .int .i64 (-1), .int .i64 0])) w' := by
 subst hP hT
 exact find_good h1 hone h2 htwo hw hu hbad H' Mv
end Go.Proofs.YtmpcafdgkbpneaaGreat

/- page.Find, for one kind of access. -/
namespace Go.Proofs.YtmpcafdgkbpneaaGreat
open Go.RowKit Go.MapKept
set_option linter.unusedVariables false

set_option maxRecDepth 100000 in
theorem find_ff {w : World} {b : Nat} {S : Nat → Prop} {R : RS} (H : Ram w b S R) (cr3 lin : Nat) (hc : cr3 < 4294967296) (hl : lin < 4294967296) (wp : Bool) :
    Calls Tryz.prog 202 #[.pointer (some ⟨b, 0, .none⟩), .int .u32 cr3, .int .u32 lin, .agg #[.bool false, .bool false, .bool wp]] w (FindEnd w b S (find R cr3 lin false false wp)) := by
 have f1 := a4095 cr3 hc
 have f2 := s22 lin hl
 have f3 := s12 lin hl
 have o1 : bits .or .i64 0 2 = 2 := by decide
 have o2 : bits .or .i64 2 4 = 6 := by decide
 have o3 : bits .or .i64 0 4 = 4 := by decide
 have o4 : bits .or .i64 0 1 = 1 := by decide
 have hP := pde_lt cr3 lin hc hl
 have eP : (cr3 : Int) / 4096 * 4096 + (lin : Int) / 4194304 * 4 = (pdeOf cr3 lin : Nat) := by unfold pdeOf; omega
 generalize hPe : pdeOf cr3 lin = P at *
 have HP := Lib.hid hPe
 clear hPe
 go_enter Tryz.func202, Tryz.ntmps202
 go_wp2_with fail
 refine wp_loop_rounds 3 ?_
 rw [rounds_succ]
 go_wp2_with fail
 refine (read_4 (((H.alloc _).alloc _).alloc _) P hP).mono ?_
 rintro e w1 ⟨rfl, n1, rfl⟩
 have one32 : R.read P 4 < 4294967296 := RS.read_lt H.isok _ 4
 generalize hone : R.read P 4 = one at *
 have HONE := Lib.hid hone
 clear hone
 have g1 := and_all one one32
 have g2 := and_1 one one32
 by_cases h1 : one % 2 = 0
 ·have g3 : ((one : Int) % 2 == 0) = true := by rw [beq_iff_eq]; omega
  have H1 := Lib.hid h1
  clear h1
  go_wp2_with fail
  go_returns
  exact find_no H H1.out (by rw [HP.out]; exact HONE.out) (by repeat' (first | (with_reducible exact Below.refl _ _) | (with_reducible refine Below.setCell ?_ (by first | (simp; done) | (simp; omega)) _) | (with_reducible refine below_dn ?_ _) | (with_reducible refine Below.alloc ?_ (by first | (simp; done) | (simp; omega)) _)))
 ·have g3 : ((one : Int) % 2 == 0) = false := by rw [beq_eq_false_iff_ne]; omega
  have H1 := Lib.hid h1
  clear h1
  go_wp2_with fail
  rw [rounds_succ]
  have e4 := a4095 one one32
  have hT := pte_lt one lin one32
  have eT : (one : Int) / 4096 * 4096 + (lin : Int) / 4096 % 1024 * 4 = (pteOf one lin : Nat) := by unfold pteOf; omega
  generalize hTe : pteOf one lin = T at *
  have HT := Lib.hid hTe
  clear hTe
  go_wp2_with fail
  refine (read_4 (H.below (by repeat' (first | (with_reducible exact Below.refl _ _) | (with_reducible refine Below.setCell ?_ (by first | (simp; done) | (simp; omega)) _) | (with_reducible refine below_dn ?_ _) | (with_reducible refine Below.alloc ?_ (by first | (simp; done) | (simp; omega)) _)))) T hT).mono ?_
  rintro e w2 ⟨rfl, n2, rfl⟩
  have two32 : R.read T 4 < 4294967296 := RS.read_lt H.isok _ 4
  generalize htwo : R.read T 4 = two at *
  have HTWO := Lib.hid htwo
  clear htwo g1 g2 g3
  have g1 := u32_and_nat one two one32 two32
  have B32 : one &&& two < 4294967296 := Nat.lt_of_le_of_lt Nat.and_le_left one32
  have hB1 : (one &&& two) % 2 = two % 2 := both_bit one two H1.out
  obtain ⟨wB, hwB⟩ : ∃ y : Bool, y = (one / 2 % 2 == 1 && two / 2 % 2 == 1) := ⟨_, rfl⟩
  obtain ⟨uB, huB⟩ : ∃ y : Bool, y = (one / 4 % 2 == 1 && two / 4 % 2 == 1) := ⟨_, rfl⟩
  have q2 : (((one &&& two : Nat) : Int) / 2 % 2 * 2 != 0) = wB := by
   have := bit_ne ((one &&& two) / 2) 2 (by decide)
   rw [hwB, ← and_bit one two 1, show (2 : Nat) ^ 1 = 2 from rfl, ← this]; simp
  have q4 : (((one &&& two : Nat) : Int) / 4 % 2 * 4 != 0) = uB := by
   have := bit_ne ((one &&& two) / 4) 4 (by decide)
   rw [huB, ← and_bit one two 2, show (2 : Nat) ^ 2 = 4 from rfl, ← this]; simp
  have HWB := Lib.hid hwB
  have HUB := Lib.hid huB
  clear hwB huB
  generalize one &&& two = B at *
  have g4 := and_1 B B32
  have g5 := and_2 B B32
  have g6 := and_4 B B32
  by_cases h2 : two % 2 = 0
  ·have g3 : ((B : Int) % 2 == 0) = true := by rw [beq_iff_eq]; omega
   have H2 := Lib.hid h2
   clear h2 hB1
   go_wp2_with fail
   go_returns
   exact find_no2 H H1.out (by rw [HP.out]; exact HONE.out) H2.out (by rw [HT.out]; exact HTWO.out) (by repeat' (first | (with_reducible exact Below.refl _ _) | (with_reducible refine Below.setCell ?_ (by first | (simp; done) | (simp; omega)) _) | (with_reducible refine below_dn ?_ _) | (with_reducible refine Below.alloc ?_ (by first | (simp; done) | (simp; omega)) _)))
  ·have g3 : ((B : Int) % 2 == 0) = false := by rw [beq_eq_false_iff_ne]; omega
   have H2 := Lib.hid h2
   clear h2 hB1
   have e5 := a4095 two two32
   go_wp2_with fail
   rw [rounds_succ]
   go_wp2_with fail
   clear e5
   go_loopw [112] (fun i wr => ∃ k : Nat, k ≤ 2 ∧ i = .int .i64 k ∧ FRel w wr b S (w.heap.size + 1 + 1) (w.heap.size + 1 + 1 + 1 + 1) (w.heap.size + 1 + 1 + 1) (w.heap.size + 1) P T 32 ⟨two / 4096 * 4096, P, T, wB, uB⟩ (marks R P T 32 k)) (fun i _ => 2 - (intOf i).toNat)
   case atStart =>
    refine ⟨0, by omega, rfl, ⟨S, by rw [marks_zero]; exact H.below (by repeat' (first | (with_reducible exact Below.refl _ _) | (with_reducible refine Below.setCell ?_ (by first | (simp; done) | (simp; omega)) _) | (with_reducible refine below_dn ?_ _) | (with_reducible refine Below.alloc ?_ (by first | (simp; done) | (simp; omega)) _))), Moves.ofBelow (by repeat' (first | (with_reducible exact Below.refl _ _) | (with_reducible refine Below.setCell ?_ (by first | (simp; done) | (simp; omega)) _) | (with_reducible refine below_dn ?_ _) | (with_reducible refine Below.alloc ?_ (by first | (simp; done) | (simp; omega)) _))), fun i hi => by have := H.lt hi; omega⟩, ?_, ?_, ?_, ?_⟩
    all_goals
     clear f1 f2 f3 o1 o2 o3 o4 g1 g3 g4 g5 g6 e4 q2 q4 eP eT H1 H2 HONE HTWO HWB HUB
     simp only [heap_drewN', setCell_heap, alloc_heap', Array.getElem?_modify, Array.getElem?_push, Array.size_push, Array.size_modify]
     repeat (first | rw [if_neg (by omega)] | rw [if_pos (by omega)])
     simp [putObj]
   case round =>
    obtain ⟨k, hk, rfl, ⟨S', HS, Mv, nn⟩, hh⟩ := hrel
    have c0 : wr.cell? ⟨w.heap.size + 1 + 1, 0, .none⟩ = some (.int .u32 (P : Nat)) := by rw [cell_at hh.a]; rfl
    have c1 : wr.cell? ⟨w.heap.size + 1 + 1, 1, .none⟩ = some (.int .u32 (T : Nat)) := by rw [cell_at hh.a]; rfl
    have c2 : wr.cell? ⟨w.heap.size + 1 + 1 + 1 + 1, 0, .none⟩ = some (.int .u32 32) := by rw [cell_at hh.m]; rfl
    have c3 : wr.cell? ⟨w.heap.size + 1 + 1 + 1 + 1, 1, .none⟩ = some (.int .u32 32) := by rw [cell_at hh.m]; rfl
    clear f1 f2 f3 o1 o2 o3 o4 g1 g3 g4 g5 g6 e4 q2 q4 eP eT
    by_cases hk2 : k < 2
    ·obtain ⟨a, m, Rk, ca, cm, ha, hm, er, en⟩ : ∃ (a m : Nat) (Rk : RS), wr.cell? ⟨w.heap.size + 1 + 1, k, .none⟩ = some (.int .u32 (a : Nat)) ∧ wr.cell? ⟨w.heap.size + 1 + 1 + 1 + 1, k, .none⟩ = some (.int .u32 (m : Nat)) ∧ a < 4294967296 ∧ m < 4294967296 ∧
         marks R P T 32 k = Rk ∧ marks R P T 32 (k + 1) = Rk.mark a m := by
       rcases (show k = 0 ∨ k = 1 by omega) with rfl | rfl
       ·exact ⟨P, 32, R, c0, c2, hP, by decide, marks_zero _ _ _ _, marks_one _ _ _ _⟩
       ·exact ⟨T, 32, R.mark P 32, c1, c3, hT, by decide, marks_one _ _ _ _, marks_two _ _ _ _⟩
     rw [er] at HS
     have EN := Lib.hid en
     clear c0 c1 c2 c3 er en
     have q1 : (0 : Int) ≤ (k : Int) := by omega
     have q2 : (k : Int) < 2 := by omega
     go_wp2_with fail
     refine (read_4 HS a ha).mono ?_
     rintro e w3 ⟨rfl, n3, rfl⟩
     have n32 : Rk.read a 4 < 4294967296 := RS.read_lt HS.isok _ 4
     have hor : bits .or .u32 ((Rk.read a 4 : Nat) : Int) (m : Int) = (((Rk.read a 4) ||| m : Nat) : Int) := u32_or_nat _ m n32 hm
     have om32 : (Rk.read a 4) ||| m < 4294967296 := Nat.or_lt_two_pow (n := 32) n32 hm
     have HMS := Lib.hid (mark_same Rk a m)
     have HMN := Lib.hid (mark_new Rk a m)
     have HS2 := HS.drewN n3
     have Mv2 := Mv.trans (Moves.drewN S' _ n3)
     by_cases hsame : (Rk.read a 4) ||| m = Rk.read a 4
     ·have FR : FRel w (wr.drewN n3) b S (w.heap.size + 1 + 1) (w.heap.size + 1 + 1 + 1 + 1) (w.heap.size + 1 + 1 + 1) (w.heap.size + 1) P T 32 ⟨two / 4096 * 4096, P, T, wB, uB⟩ (marks R P T 32 (k + 1)) := by
        rw [EN.out, HMS.out hsame]
        exact ⟨⟨S', HS2, Mv2, nn⟩, ⟨hh.a, hh.m, hh.x, hh.z⟩⟩
      rw [hsame] at hor
      clear hsame HS2 Mv2 hh HS Mv om32
      generalize Rk.read a 4 = n at *
      go_wp2_with fail
      go_roundw
      case rel => exact ⟨k + 1, by omega, by go_num, FR⟩
      case measure => (simp [intOf]) <;> omega
     ·have HR := Lib.hid (HMN.out hsame)
      have hne : ((((Rk.read a 4) ||| m : Nat) : Int) != ((Rk.read a 4 : Nat) : Int)) = true := by rw [bne_iff_ne]; omega
      clear hsame HMS HMN
      generalize Rk.read a 4 = n at *
      generalize n ||| m = om at *
      have ca3 : (wr.drewN n3).cell? ⟨w.heap.size + 1 + 1, k, .none⟩ = some (.int .u32 (a : Nat)) := ca
      have cm3 : (wr.drewN n3).cell? ⟨w.heap.size + 1 + 1 + 1 + 1, k, .none⟩ = some (.int .u32 (m : Nat)) := cm
      have hh3 := hh.quiet n3
      clear ca cm hh
      generalize wr.drewN n3 = W3 at *
      go_upto_region 30 with (fail)
      go_still_tail 9, (by kernel_rfl)
      change wpList _ _ _ _ _ (W3.drewN 1)
      go_wp2_with fail
      refine (write_4 (HS2.drewN 1) a om ha om32).mono ?_
      rintro e w4 ⟨rfl, S4, H4, M4⟩
      have FR : FRel w w4 b S (w.heap.size + 1 + 1) (w.heap.size + 1 + 1 + 1 + 1) (w.heap.size + 1 + 1 + 1) (w.heap.size + 1) P T 32 ⟨two / 4096 * 4096, P, T, wB, uB⟩ (marks R P T 32 (k + 1)) := by
       rw [EN.out, HR.out]
       exact FRel.wrote (wr := W3.drewN 1) ⟨hh3.a, hh3.m, hh3.x, hh3.z⟩ (Mv2.trans (Moves.drewN S' _ 1)) nn H4 M4
      clear hor HR HS2 Mv2 hh3 HS Mv H4 M4 hne om32 n32 ca3 cm3
      go_wp2_with fail
      go_roundw
      case rel => exact ⟨k + 1, by omega, by go_num, FR⟩
      case measure => (simp [intOf]) <;> omega
    ·have hk3 : k = 2 := by omega
     rw [hk3] at HS
     clear hk3
     clear c0 c1 c2 c3
     have x0 : wr.cell? ⟨w.heap.size + 1 + 1 + 1, 0, .none⟩ = some (.int .u32 (two / 4096 * 4096 : Nat)) := by rw [cell_at hh.x]; rfl
     have x1 : wr.cell? ⟨w.heap.size + 1 + 1 + 1, 1, .none⟩ = some (.int .u32 (P : Nat)) := by rw [cell_at hh.x]; rfl
     have x2 : wr.cell? ⟨w.heap.size + 1 + 1 + 1, 2, .none⟩ = some (.int .u32 (T : Nat)) := by rw [cell_at hh.x]; rfl
     have x3 : wr.cell? ⟨w.heap.size + 1 + 1 + 1, 3, .none⟩ = some (.bool wB) := by rw [cell_at hh.x]; rfl
     have x4 : wr.cell? ⟨w.heap.size + 1 + 1 + 1, 4, .none⟩ = some (.bool uB) := by rw [cell_at hh.x]; rfl
     have z0 : wr.cell? ⟨w.heap.size + 1, 0, .none⟩ = some (.int .u32 0) := by rw [cell_at hh.z]; rfl
     have z1 : wr.cell? ⟨w.heap.size + 1, 1, .none⟩ = some (.int .u32 0) := by rw [cell_at hh.z]; rfl
     have z2 : wr.cell? ⟨w.heap.size + 1, 2, .none⟩ = some (.int .u32 0) := by rw [cell_at hh.z]; rfl
     have z3 : wr.cell? ⟨w.heap.size + 1, 3, .none⟩ = some (.bool false) := by rw [cell_at hh.z]; rfl
     have z4 : wr.cell? ⟨w.heap.size + 1, 4, .none⟩ = some (.bool false) := by rw [cell_at hh.z]; rfl
     have CS := cell_sets hh.z (.int .u32 (two / 4096 * 4096 : Nat)) (.int .u32 (P : Nat)) (.int .u32 (T : Nat)) (.bool wB) (.bool uB)
     have zf : ∀ j, wr.frozen? ⟨w.heap.size + 1, j, .none⟩ = false := fun j => free_at hh.z
     have zl := heap_lt hh.z
     have xl := heap_lt hh.x
     have hn : ¬ S' (w.heap.size + 1) := fun h => (nn _ h).2.2.2 rfl
     have HFin : Ram (sets5 wr (w.heap.size + 1) (.int .u32 (two / 4096 * 4096 : Nat)) (.int .u32 (P : Nat)) (.int .u32 (T : Nat)) (.bool wB) (.bool uB)) b S' _ := ((((HS.set hn _ _).set hn _ _).set hn _ _).set hn _ _).set hn _ _
     have MFin : Moves S S' w (sets5 wr (w.heap.size + 1) (.int .u32 (two / 4096 * 4096 : Nat)) (.int .u32 (P : Nat)) (.int .u32 (T : Nat)) (.bool wB) (.bool uB)) := Mv.sets5 (Nat.le_succ _) _ _ _ _ _ _ _ _ _ _
     clear hh nn
     generalize hfr : two / 4096 * 4096 = fr at *
     have HFR := Lib.hid hfr
     have HCS := Lib.hid CS
     clear hfr CS
     go_wp2_with fail
     change bodyPost _ _ _ _ _ (sets5 wr (w.heap.size + 1) (.int .u32 (fr : Nat)) (.int .u32 (P : Nat)) (.int .u32 (T : Nat)) (.bool wB) (.bool uB))
     obtain ⟨y0, y1, y2, y3, y4⟩ := HCS.out
     clear HCS x0 x1 x2 x3 x4 z0 z1 z2 z3 z4 zf zl xl
     generalize sets5 wr (w.heap.size + 1) (.int .u32 (fr : Nat)) (.int .u32 (P : Nat)) (.int .u32 (T : Nat)) (.bool wB) (.bool uB) = Wf at *
     refine bodyPost_ret (v := .tuple #[.agg #[.int .u32 (fr : Nat), .int .u32 (P : Nat), .int .u32 (T : Nat), .bool wB, .bool uB], .int .i64 (-1), .int .i64 0]) (by simp [results, Tryz.results202, go_sem, y0, y1, y2, y3, y4]) rfl ?_
     rw [← HFR.out]
     exact find_good' HP.out HT.out H1.out HONE.out H2.out HTWO.out HWB.out HUB.out rfl HFin MFin
end Go.Proofs.YtmpcafdgkbpneaaGreat

