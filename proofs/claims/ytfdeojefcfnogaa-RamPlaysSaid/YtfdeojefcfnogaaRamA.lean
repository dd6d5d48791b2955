/- ram: physical memory, as what it holds; what it is in memory. -/
import Derived.Test.YtfdeojefcfnogaaRows
import Derived.Test.YtfdeojefcfnogaaMap
import Derived.BigRegion
import Derived.Deep.RegionWith
import Derived.Deep.RegionHeld3
import Derived.Deep.Cut
import Derived.Lib.Hide
import Derived.Laws.BitsAll
import Derived.Deep.QuietTactic
import Derived.BigQuiet
namespace Go.Proofs.Ytfdeojefcfnogaa
open Go.RowKit Go.MapKept
set_option linter.unusedVariables false

/-- What a memory holds. -/
structure RS where
  pages : Nat
  closed : Bool
  byte : Nat → Nat
  only : Nat → Bool
  watched : Nat → Bool
  noted : Nat → Bool
def RS.size (R : RS) : Nat := R.pages * 4096
def RS.place (R : RS) (a : Nat) : Nat := if R.closed then a &&& 4293918719 else a
def RS.get (R : RS) (a : Nat) : Nat := if R.place a < R.size then R.byte (R.place a) else 255
/-- A byte is laid at a place. -/
def RS.lay (R : RS) (n v : Nat) : RS :=
  { R with
    byte := fun i => if i = n then v else R.byte i
    watched := fun g => if g = n / 64 then false else R.watched g
    noted := fun k => if k = n / 64 * 64 ∧ R.watched (n / 64) = true then true else R.noted k }
def RS.put (R : RS) (a v : Nat) : RS := if R.place a < R.size then R.lay (R.place a) v else R
/-- A byte is written, where it may be. -/
def RS.wr (R : RS) (a v : Nat) : RS := if R.place a < R.size ∧ R.only (R.place a / 4096) = false then R.lay (R.place a) v else R

structure RS.ok (R : RS) : Prop where
  p1 : 1 ≤ R.pages
  p2 : R.pages ≤ 256
  b : ∀ n, R.byte n < 256

theorem RS.place_le (R : RS) (a : Nat) : R.place a ≤ a := by
  unfold RS.place; split
  · exact Nat.and_le_left
  · exact Nat.le_refl _
theorem RS.get_lt {R : RS} (h : R.ok) (a : Nat) : R.get a < 256 := by unfold RS.get; split; exact h.b _; decide
theorem RS.size_le {R : RS} (h : R.ok) : R.size ≤ 1048576 := by have := h.p2; unfold RS.size; omega
theorem RS.size_pos {R : RS} (h : R.ok) : 4096 ≤ R.size := by have := h.p1; unfold RS.size; omega
theorem RS.lay_ok {R : RS} (h : R.ok) (n v : Nat) (hv : v < 256) : (R.lay n v).ok := ⟨h.p1, h.p2, fun i => by
  show (if i = n then v else R.byte i) < 256
  split
  · exact hv
  · exact h.b i⟩
theorem RS.put_ok {R : RS} (h : R.ok) (a v : Nat) (hv : v < 256) : (R.put a v).ok := by
  unfold RS.put; split
  · exact RS.lay_ok h _ _ hv
  · exact h
theorem RS.wr_ok {R : RS} (h : R.ok) (a v : Nat) (hv : v < 256) : (R.wr a v).ok := by
  unfold RS.wr; split
  · exact RS.lay_ok h _ _ hv
  · exact h

/-- A map of marks: true where g says so; what is not there is false. -/
def MarkAt (w : World) (r : Nat) (g : Nat → Bool) : Prop := ∃ f, MapAt w r .u32 f ∧ ∀ n, (f n = none ∧ g n = false) ∨ f n = some (.bool (g n))
/-- A set: what is there is true. -/
def SetAt (w : World) (r : Nat) (g : Nat → Bool) : Prop := MapAt w r .u32 (fun n => if g n then some (.bool true) else none)
def pageCells (byte : Nat → Nat) (k : Nat) : Array Value := Array.ofFn (n := 4096) fun i => .int .u8 (byte (k * 4096 + i.val))
def pagePtr (pg : Nat → Option Nat) (n : Nat) : Option Value := (pg n).map fun q => .pointer (some ⟨q, 0, none⟩)

/-- A memory of R in the blocks b (the object), bp, bo, bw, bn (its maps); pg k: the block of page k. -/
structure RamIn (w : World) (b bp bo bw bn : Nat) (pg : Nat → Option Nat) (R : RS) : Prop where
  obj : w.heap[b]? = some (.cells #[.int .u32 R.size, .map (some bp), .map (some bo), .map (some bw), .map (some bn), .bool R.closed] 61)
  mp : MapAt w bp .u32 (pagePtr pg)
  mo : MarkAt w bo R.only
  mw : SetAt w bw R.watched
  mn : SetAt w bn R.noted
  page : ∀ k q, pg k = some q → w.heap[q]? = some (.cells (pageCells R.byte k) 69)
  zero : ∀ k, pg k = .none → ∀ i, i < 4096 → R.byte (k * 4096 + i) = 0
  inj : ∀ k k' q, pg k = some q → pg k' = some q → k = k'
  inside : ∀ k q, pg k = some q → k < R.pages
  d1 : bp ≠ bo
  d2 : bp ≠ bw
  d3 : bp ≠ bn
  d4 : bo ≠ bw
  d5 : bo ≠ bn
  d6 : bw ≠ bn
  ok : R.ok

def Owned (b bp bo bw bn : Nat) (pg : Nat → Option Nat) (k : Nat) : Prop := k = b ∨ k = bp ∨ k = bo ∨ k = bw ∨ k = bn ∨ ∃ j, pg j = some k
/-- A memory of R, in the blocks S, its object in block b. -/
def Ram (w : World) (b : Nat) (S : Nat → Prop) (R : RS) : Prop := ∃ bp bo bw bn pg, RamIn w b bp bo bw bn pg R ∧ ∀ k, S k ↔ Owned b bp bo bw bn pg k

section
variable {w w' : World} {b bp bo bw bn : Nat} {pg : Nat → Option Nat} {R : RS}
theorem RamIn.b_p (H : RamIn w b bp bo bw bn pg R) : b ≠ bp := by
  rintro rfl; obtain ⟨es, c, h, _⟩ := H.mp; rw [H.obj] at h; cases h
theorem RamIn.b_o (H : RamIn w b bp bo bw bn pg R) : b ≠ bo := by
  rintro rfl; obtain ⟨f, ⟨es, c, h, _⟩, _⟩ := H.mo; rw [H.obj] at h; cases h
theorem RamIn.b_w (H : RamIn w b bp bo bw bn pg R) : b ≠ bw := by
  rintro rfl; obtain ⟨es, c, h, _⟩ := H.mw; rw [H.obj] at h; cases h
theorem RamIn.b_n (H : RamIn w b bp bo bw bn pg R) : b ≠ bn := by
  rintro rfl; obtain ⟨es, c, h, _⟩ := H.mn; rw [H.obj] at h; cases h
theorem RamIn.q_b (H : RamIn w b bp bo bw bn pg R) {k q : Nat} (hq : pg k = some q) : q ≠ b := by
  rintro rfl; have h := H.page k q hq; rw [H.obj] at h; simp at h
theorem RamIn.q_p (H : RamIn w b bp bo bw bn pg R) {k q : Nat} (hq : pg k = some q) : q ≠ bp := by
  rintro rfl; obtain ⟨es, c, h, _⟩ := H.mp; rw [H.page k q hq] at h; cases h
theorem RamIn.q_o (H : RamIn w b bp bo bw bn pg R) {k q : Nat} (hq : pg k = some q) : q ≠ bo := by
  rintro rfl; obtain ⟨f, ⟨es, c, h, _⟩, _⟩ := H.mo; rw [H.page k q hq] at h; cases h
theorem RamIn.q_w (H : RamIn w b bp bo bw bn pg R) {k q : Nat} (hq : pg k = some q) : q ≠ bw := by
  rintro rfl; obtain ⟨es, c, h, _⟩ := H.mw; rw [H.page k q hq] at h; cases h
theorem RamIn.q_n (H : RamIn w b bp bo bw bn pg R) {k q : Nat} (hq : pg k = some q) : q ≠ bn := by
  rintro rfl; obtain ⟨es, c, h, _⟩ := H.mn; rw [H.page k q hq] at h; cases h
theorem Owned.lt (H : RamIn w b bp bo bw bn pg R) {k : Nat} (h : Owned b bp bo bw bn pg k) : k < w.heap.size := by
  obtain ⟨f, mo, _⟩ := H.mo
  rcases h with rfl | rfl | rfl | rfl | rfl | ⟨j, hj⟩
  · exact heap_lt H.obj
  · exact H.mp.lt
  · exact mo.lt
  · exact MapAt.lt H.mw
  · exact MapAt.lt H.mn
  · exact heap_lt (H.page j k hj)
/-- A memory is where all its blocks are. -/
theorem RamIn.of_heap (H : RamIn w b bp bo bw bn pg R) (h : ∀ k, Owned b bp bo bw bn pg k → w'.heap[k]? = w.heap[k]?) : RamIn w' b bp bo bw bn pg R := by
  obtain ⟨f, mo, hf⟩ := H.mo
  exact { H with
    obj := by rw [h b (.inl rfl)]; exact H.obj
    mp := H.mp.of_heap (h bp (.inr (.inl rfl)))
    mo := ⟨f, mo.of_heap (h bo (.inr (.inr (.inl rfl)))), hf⟩
    mw := MapAt.of_heap H.mw (h bw (.inr (.inr (.inr (.inl rfl)))))
    mn := MapAt.of_heap H.mn (h bn (.inr (.inr (.inr (.inr (.inl rfl))))))
    page := fun k q hq => by rw [h q (.inr (.inr (.inr (.inr (.inr ⟨k, hq⟩)))))]; exact H.page k q hq }
theorem RamIn.alloc (H : RamIn w b bp bo bw bn pg R) (o : Obj) : RamIn (w.alloc o) b bp bo bw bn pg R := H.of_heap fun k hk => Below.heap_alloc _ _ _ (hk.lt H)
theorem RamIn.drewN (H : RamIn w b bp bo bw bn pg R) (n : Nat) : RamIn (w.drewN n) b bp bo bw bn pg R := H.of_heap fun _ _ => rfl
theorem RamIn.keeps {S : Nat → Prop} (H : RamIn w b bp bo bw bn pg R) (hk : Keeps S w w') (hn : ∀ k, Owned b bp bo bw bn pg k → ¬ S k) : RamIn w' b bp bo bw bn pg R :=
  H.of_heap fun k hk' => hk.block k (hk'.lt H) (hn k hk')
theorem RamIn.facts (H : RamIn w b bp bo bw bn pg R) :
    w.cell? ⟨b, 0, none⟩ = some (.int .u32 R.size) ∧ w.cell? ⟨b, 1, none⟩ = some (.map (some bp)) ∧ w.cell? ⟨b, 2, none⟩ = some (.map (some bo)) ∧ w.cell? ⟨b, 3, none⟩ = some (.map (some bw)) ∧
    w.cell? ⟨b, 4, none⟩ = some (.map (some bn)) ∧ w.cell? ⟨b, 5, none⟩ = some (.bool R.closed) ∧ (∀ k, w.frozen? ⟨b, k, none⟩ = false) ∧ b < w.heap.size := by
  have h := H.obj
  refine ⟨?_, ?_, ?_, ?_, ?_, ?_, fun k => free_at h, heap_lt h⟩ <;> (rw [cell_at h]; rfl)
theorem page_cell {byte : Nat → Nat} {k q i : Nat} {T : TypeId} (h : w.heap[q]? = some (.cells (pageCells byte k) T)) (hi : i < 4096) : w.cell? ⟨q, i, none⟩ = some (.int .u8 (byte (k * 4096 + i))) := by
  rw [cell_at h]
  unfold pageCells
  rw [Array.getElem?_ofFn, dif_pos hi]
theorem MarkAt.lookup {g : Nat → Bool} {r n : Nat} (h : MarkAt w r g) (x : Int) (hx : x = (n : Int)) : (Instr.lookup 59 (.map (some r)) (.int .u32 x) false).run Try.prog w = .ok (.bool (g n)) w := by
  obtain ⟨f, m, hf⟩ := h
  rw [m.lookup Try.underlying59 Try.underlying23 (z := .bool false) (by kernel_rfl) n x hx]
  rcases hf n with ⟨h1, h2⟩ | h1
  · rw [h1, h2]; rfl
  · rw [h1]; rfl
theorem SetAt.lookup {g : Nat → Bool} {r n : Nat} (h : SetAt w r g) (x : Int) (hx : x = (n : Int)) : (Instr.lookup 59 (.map (some r)) (.int .u32 x) false).run Try.prog w = .ok (.bool (g n)) w := by
  rw [MapAt.lookup h Try.underlying59 Try.underlying23 (z := .bool false) (by kernel_rfl) n x hx]
  cases g n <;> rfl
theorem pages_lookup {r n : Nat} (h : MapAt w r .u32 (pagePtr pg)) (x : Int) (hx : x = (n : Int)) : (Instr.lookup 58 (.map (some r)) (.int .u32 x) false).run Try.prog w = .ok (.pointer ((pg n).map fun q => ⟨q, 0, none⟩)) w := by
  rw [h.lookup Try.underlying58 Try.underlying23 (z := .pointer none) (by kernel_rfl) n x hx]
  unfold pagePtr
  cases pg n <;> rfl
end

set_option maxHeartbeats 1000000 in
theorem place_any {w : World} {b bp bo bw bn : Nat} {pg : Nat → Option Nat} {R : RS} (H : RamIn w b bp bo bw bn pg R) (a : Nat) (ha : a < 4294967296) :
    Calls Try.prog 24 #[.pointer (some ⟨b, 0, none⟩), .int .u32 a] w fun e w' => e = .returned (.tuple #[.int .u32 (R.place a : Nat), .bool (decide (R.place a < R.size))]) ∧ ∃ n, w' = w.drewN n := by
  obtain ⟨k0, -, -, -, -, k5, kf, klt⟩ := H.facts
  have e : bits .andNot .u32 (a : Int) 1048576 = ((a &&& 4293918719 : Nat) : Int) := u32_andNot_nat a 1048576 ha (by decide)
  cases hc : R.closed
  all_goals
    rw [hc] at k5
    go_enter Try.func24, Try.ntmps24
    go_wp2_with fail
    go_quiet (fail)
    go_wp2_with fail
    go_ret2
    refine ⟨?_, _, rfl⟩
    unfold RS.place
    rw [hc]
    simp
end Go.Proofs.Ytfdeojefcfnogaa
