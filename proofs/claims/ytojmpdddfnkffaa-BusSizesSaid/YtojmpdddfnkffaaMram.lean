/- RamA RamB RamC RamD RamE RamF RamG RefA RefB RefC, together. -/
import Derived.Test.YtojmpdddfnkffaaRows
import Derived.Test.YtojmpdddfnkffaaMap
import Derived.BigRegion
import Derived.Deep.RegionWith
import Derived.Deep.RegionHeld3
import Derived.Deep.Cut
import Derived.Lib.Hide
import Derived.Laws.BitsAll
import Derived.Deep.QuietTactic
import Derived.BigQuiet
import Derived.Laws.CopyOwn
import Derived.Laws.MakeOwn
import Derived.Maps.RangeRun
/- ram: physical memory, as what it holds; what it is in memory. -/
namespace Go.Proofs.Ytojmpdddfnkffaa
open Go.RowKit Go.MapKept
set_option linter.unusedVariables false

/-- What a memory holds. -/
structure RS where
  pages : Nat
  closed : Bool
  byte : Nat → Nat
  only : Nat → Bool
  watched : Nat → Bool
  noted : Nat → Bool
def RS.size (R : RS) : Nat := R.pages * 4096
def RS.place (R : RS) (a : Nat) : Nat := if R.closed then a &&& 4293918719 else a
def RS.get (R : RS) (a : Nat) : Nat := if R.place a < R.size then R.byte (R.place a) else 255
/-- A byte is laid at a place. -/
def RS.lay (R : RS) (n v : Nat) : RS :=
  { R with
    byte := fun i => if i = n then v else R.byte i
    watched := fun g => if g = n / 64 then false else R.watched g
    noted := fun k => if k = n / 64 * 64 ∧ R.watched (n / 64) = true then true else R.noted k }
def RS.put (R : RS) (a v : Nat) : RS := if R.place a < R.size then R.lay (R.place a) v else R
/-- A byte is written, where it may be. -/
def RS.wr (R : RS) (a v : Nat) : RS := if R.place a < R.size ∧ R.only (R.place a / 4096) = false then R.lay (R.place a) v else R

structure RS.ok (R : RS) : Prop where
  p1 : 1 ≤ R.pages
  p2 : R.pages ≤ 256
  b : ∀ n, R.byte n < 256

theorem RS.place_le (R : RS) (a : Nat) : R.place a ≤ a := by
  unfold RS.place; split
  · exact Nat.and_le_left
  · exact Nat.le_refl _
theorem RS.get_lt {R : RS} (h : R.ok) (a : Nat) : R.get a < 256 := by unfold RS.get; split; exact h.b _; decide
theorem RS.size_le {R : RS} (h : R.ok) : R.size ≤ 1048576 := by have := h.p2; unfold RS.size; omega
theorem RS.size_pos {R : RS} (h : R.ok) : 4096 ≤ R.size := by have := h.p1; unfold RS.size; omega
theorem RS.lay_ok {R : RS} (h : R.ok) (n v : Nat) (hv : v < 256) : (R.lay n v).ok := ⟨h.p1, h.p2, fun i => by
  show (if i = n then v else R.byte i) < 256
  split
  · exact hv
  · exact h.b i⟩
theorem RS.put_ok {R : RS} (h : R.ok) (a v : Nat) (hv : v < 256) : (R.put a v).ok := by
  unfold RS.put; split
  · exact RS.lay_ok h _ _ hv
  · exact h
theorem RS.wr_ok {R : RS} (h : R.ok) (a v : Nat) (hv : v < 256) : (R.wr a v).ok := by
  unfold RS.wr; split
  · exact RS.lay_ok h _ _ hv
  · exact h

/-- A map of marks: true where g says so; what is not there is false. -/
def MarkAt (w : World) (r : Nat) (g : Nat → Bool) : Prop := ∃ f, MapAt w r .u32 f ∧ ∀ n, (f n = none ∧ g n = false) ∨ f n = some (.bool (g n))
/-- A set: what is there is true. -/
def SetAt (w : World) (r : Nat) (g : Nat → Bool) : Prop := MapAt w r .u32 (fun n => if g n then some (.bool true) else none)
def pageCells (byte : Nat → Nat) (k : Nat) : Array Value := Array.ofFn (n := 4096) fun i => .int .u8 (byte (k * 4096 + i.val))
def pagePtr (pg : Nat → Option Nat) (n : Nat) : Option Value := (pg n).map fun q => .pointer (some ⟨q, 0, none⟩)

/-- A memory of R in the blocks b (the object), bp, bo, bw, bn (its maps); pg k: the block of page k. -/
structure RamIn (w : World) (b bp bo bw bn : Nat) (pg : Nat → Option Nat) (R : RS) : Prop where
  obj : w.heap[b]? = some (.cells #[.int .u32 R.size, .map (some bp), .map (some bo), .map (some bw), .map (some bn), .bool R.closed] 92)
  mp : MapAt w bp .u32 (pagePtr pg)
  mo : MarkAt w bo R.only
  mw : SetAt w bw R.watched
  mn : SetAt w bn R.noted
  page : ∀ k q, pg k = some q → w.heap[q]? = some (.cells (pageCells R.byte k) 142)
  zero : ∀ k, pg k = .none → ∀ i, i < 4096 → R.byte (k * 4096 + i) = 0
  inj : ∀ k k' q, pg k = some q → pg k' = some q → k = k'
  inside : ∀ k q, pg k = some q → k < R.pages
  d1 : bp ≠ bo
  d2 : bp ≠ bw
  d3 : bp ≠ bn
  d4 : bo ≠ bw
  d5 : bo ≠ bn
  d6 : bw ≠ bn
  ok : R.ok

def Owned (b bp bo bw bn : Nat) (pg : Nat → Option Nat) (k : Nat) : Prop := k = b ∨ k = bp ∨ k = bo ∨ k = bw ∨ k = bn ∨ ∃ j, pg j = some k
/-- A memory of R, in the blocks S, its object in block b. -/
def Ram (w : World) (b : Nat) (S : Nat → Prop) (R : RS) : Prop := ∃ bp bo bw bn pg, RamIn w b bp bo bw bn pg R ∧ ∀ k, S k ↔ Owned b bp bo bw bn pg k

section
variable {w w' : World} {b bp bo bw bn : Nat} {pg : Nat → Option Nat} {R : RS}
theorem RamIn.b_p (H : RamIn w b bp bo bw bn pg R) : b ≠ bp := by
  rintro rfl; obtain ⟨es, c, h, _⟩ := H.mp; rw [H.obj] at h; cases h
theorem RamIn.b_o (H : RamIn w b bp bo bw bn pg R) : b ≠ bo := by
  rintro rfl; obtain ⟨f, ⟨es, c, h, _⟩, _⟩ := H.mo; rw [H.obj] at h; cases h
theorem RamIn.b_w (H : RamIn w b bp bo bw bn pg R) : b ≠ bw := by
  rintro rfl; obtain ⟨es, c, h, _⟩ := H.mw; rw [H.obj] at h; cases h
theorem RamIn.b_n (H : RamIn w b bp bo bw bn pg R) : b ≠ bn := by
  rintro rfl; obtain ⟨es, c, h, _⟩ := H.mn; rw [H.obj] at h; cases h
theorem RamIn.q_b (H : RamIn w b bp bo bw bn pg R) {k q : Nat} (hq : pg k = some q) : q ≠ b := by
  rintro rfl; have h := H.page k q hq; rw [H.obj] at h; simp at h
theorem RamIn.q_p (H : RamIn w b bp bo bw bn pg R) {k q : Nat} (hq : pg k = some q) : q ≠ bp := by
  rintro rfl; obtain ⟨es, c, h, _⟩ := H.mp; rw [H.page k q hq] at h; cases h
theorem RamIn.q_o (H : RamIn w b bp bo bw bn pg R) {k q : Nat} (hq : pg k = some q) : q ≠ bo := by
  rintro rfl; obtain ⟨f, ⟨es, c, h, _⟩, _⟩ := H.mo; rw [H.page k q hq] at h; cases h
theorem RamIn.q_w (H : RamIn w b bp bo bw bn pg R) {k q : Nat} (hq : pg k = some q) : q ≠ bw := by
  rintro rfl; obtain ⟨es, c, h, _⟩ := H.mw; rw [H.page k q hq] at h; cases h
theorem RamIn.q_n (H : RamIn w b bp bo bw bn pg R) {k q : Nat} (hq : pg k = some q) : q ≠ bn := by
  rintro rfl; obtain ⟨es, c, h, _⟩ := H.mn; rw [H.page k q hq] at h; cases h
theorem Owned.lt (H : RamIn w b bp bo bw bn pg R) {k : Nat} (h : Owned b bp bo bw bn pg k) : k < w.heap.size := by
  obtain ⟨f, mo, _⟩ := H.mo
  rcases h with rfl | rfl | rfl | rfl | rfl | ⟨j, hj⟩
  · exact heap_lt H.obj
  · exact H.mp.lt
  · exact mo.lt
  · exact MapAt.lt H.mw
  · exact MapAt.lt H.mn
  · exact heap_lt (H.page j k hj)
/-- A memory is where all its blocks are. -/
theorem RamIn.of_heap (H : RamIn w b bp bo bw bn pg R) (h : ∀ k, Owned b bp bo bw bn pg k → w'.heap[k]? = w.heap[k]?) : RamIn w' b bp bo bw bn pg R := by
  obtain ⟨f, mo, hf⟩ := H.mo
  exact { H with
    obj := by rw [h b (.inl rfl)]; exact H.obj
    mp := H.mp.of_heap (h bp (.inr (.inl rfl)))
    mo := ⟨f, mo.of_heap (h bo (.inr (.inr (.inl rfl)))), hf⟩
    mw := MapAt.of_heap H.mw (h bw (.inr (.inr (.inr (.inl rfl)))))
    mn := MapAt.of_heap H.mn (h bn (.inr (.inr (.inr (.inr (.inl rfl))))))
    page := fun k q hq => by rw [h q (.inr (.inr (.inr (.inr (.inr ⟨k, hq⟩)))))]; exact H.page k q hq }
theorem RamIn.alloc (H : RamIn w b bp bo bw bn pg R) (o : Obj) : RamIn (w.alloc o) b bp bo bw bn pg R := H.of_heap fun k hk => Below.heap_alloc _ _ _ (hk.lt H)
theorem RamIn.drewN (H : RamIn w b bp bo bw bn pg R) (n : Nat) : RamIn (w.drewN n) b bp bo bw bn pg R := H.of_heap fun _ _ => rfl
theorem RamIn.keeps {S : Nat → Prop} (H : RamIn w b bp bo bw bn pg R) (hk : Keeps S w w') (hn : ∀ k, Owned b bp bo bw bn pg k → ¬ S k) : RamIn w' b bp bo bw bn pg R :=
  H.of_heap fun k hk' => hk.block k (hk'.lt H) (hn k hk')
theorem RamIn.facts (H : RamIn w b bp bo bw bn pg R) :
    w.cell? ⟨b, 0, none⟩ = some (.int .u32 R.size) ∧ w.cell? ⟨b, 1, none⟩ = some (.map (some bp)) ∧ w.cell? ⟨b, 2, none⟩ = some (.map (some bo)) ∧ w.cell? ⟨b, 3, none⟩ = some (.map (some bw)) ∧
    w.cell? ⟨b, 4, none⟩ = some (.map (some bn)) ∧ w.cell? ⟨b, 5, none⟩ = some (.bool R.closed) ∧ (∀ k, w.frozen? ⟨b, k, none⟩ = false) ∧ b < w.heap.size := by
  have h := H.obj
  refine ⟨?_, ?_, ?_, ?_, ?_, ?_, fun k => free_at h, heap_lt h⟩ <;> (rw [cell_at h]; rfl)
theorem page_cell {byte : Nat → Nat} {k q i : Nat} {T : TypeId} (h : w.heap[q]? = some (.cells (pageCells byte k) T)) (hi : i < 4096) : w.cell? ⟨q, i, none⟩ = some (.int .u8 (byte (k * 4096 + i))) := by
  rw [cell_at h]
  unfold pageCells
  rw [Array.getElem?_ofFn, dif_pos hi]
theorem MarkAt.lookup {g : Nat → Bool} {r n : Nat} (h : MarkAt w r g) (x : Int) (hx : x = (n : Int)) : (Instr.lookup 90 (.map (some r)) (.int .u32 x) false).run Try.prog w = .ok (.bool (g n)) w := by
  obtain ⟨f, m, hf⟩ := h
  rw [m.lookup Try.underlying90 Try.underlying33 (z := .bool false) (by kernel_rfl) n x hx]
  rcases hf n with ⟨h1, h2⟩ | h1
  · rw [h1, h2]; rfl
  · rw [h1]; rfl
theorem SetAt.lookup {g : Nat → Bool} {r n : Nat} (h : SetAt w r g) (x : Int) (hx : x = (n : Int)) : (Instr.lookup 90 (.map (some r)) (.int .u32 x) false).run Try.prog w = .ok (.bool (g n)) w := by
  rw [MapAt.lookup h Try.underlying90 Try.underlying33 (z := .bool false) (by kernel_rfl) n x hx]
  cases g n <;> rfl
theorem pages_lookup {r n : Nat} (h : MapAt w r .u32 (pagePtr pg)) (x : Int) (hx : x = (n : Int)) : (Instr.lookup 89 (.map (some r)) (.int .u32 x) false).run Try.prog w = .ok (.pointer ((pg n).map fun q => ⟨q, 0, none⟩)) w := by
  rw [h.lookup Try.underlying89 Try.underlying33 (z := .pointer none) (by kernel_rfl) n x hx]
  unfold pagePtr
  cases pg n <;> rfl
end

set_option maxHeartbeats 1000000 in
theorem place_any {w : World} {b bp bo bw bn : Nat} {pg : Nat → Option Nat} {R : RS} (H : RamIn w b bp bo bw bn pg R) (a : Nat) (ha : a < 4294967296) :
    Calls Try.prog 52 #[.pointer (some ⟨b, 0, none⟩), .int .u32 a] w fun e w' => e = .returned (.tuple #[.int .u32 (R.place a : Nat), .bool (decide (R.place a < R.size))]) ∧ ∃ n, w' = w.drewN n := by
  obtain ⟨k0, -, -, -, -, k5, kf, klt⟩ := H.facts
  have e : bits .andNot .u32 (a : Int) 1048576 = ((a &&& 4293918719 : Nat) : Int) := u32_andNot_nat a 1048576 ha (by decide)
  cases hc : R.closed
  all_goals
    rw [hc] at k5
    go_enter Try.func52, Try.ntmps52
    go_wp2_with fail
    go_quiet (fail)
    go_wp2_with fail
    go_ret2
    refine ⟨?_, _, rfl⟩
    unfold RS.place
    rw [hc]
    simp
end Go.Proofs.Ytojmpdddfnkffaa

/- ram: a byte is read; a byte is laid. -/
namespace Go.Proofs.Ytojmpdddfnkffaa
open Go.RowKit Go.MapKept
set_option linter.unusedVariables false

/-- Of the blocks that were there, those of S may have turned; of S', what is not of S is new. -/
def Moves (S S' : Nat → Prop) (w w' : World) : Prop := Keeps S w w' ∧ ∀ k, S' k → S k ∨ w.heap.size ≤ k
theorem Moves.refl (S : Nat → Prop) (w : World) : Moves S S w w := ⟨Keeps.refl S w, fun k h => .inl h⟩
theorem Moves.drewN (S : Nat → Prop) (w : World) (n : Nat) : Moves S S w (w.drewN n) := ⟨(Keeps.refl S w).drewN n, fun k h => .inl h⟩
theorem Moves.trans {S S' S'' : Nat → Prop} {a b c : World} (h : Moves S S' a b) (k : Moves S' S'' b c) : Moves S S'' a c := by
  refine ⟨h.1.andThen k.1 fun i hi hS => ?_, fun i hi => ?_⟩
  · rcases h.2 i hS with h1 | h1
    · exact h1
    · omega
  · rcases k.2 i hi with h1 | h1
    · exact h.2 i h1
    · exact .inr (Nat.le_trans h.1.size h1)

theorem page_set (byte : Nat → Nat) (k i v : Nat) (hi : i < 4096) :
    (pageCells byte k).setIfInBounds i (.int .u8 v) = pageCells (fun m => if m = k * 4096 + i then v else byte m) k := by
  apply Array.ext_getElem?
  intro j
  unfold pageCells
  rw [Array.getElem?_setIfInBounds, Array.getElem?_ofFn, Array.getElem?_ofFn]
  by_cases hj : j < 4096
  · rw [dif_pos hj, dif_pos hj]
    by_cases e : i = j
    · subst e
      rw [if_pos rfl, if_pos (by simpa using hi)]
      simp
    · rw [if_neg e]
      have : ¬ k * 4096 + j = k * 4096 + i := by omega
      show _ = some (Value.int .u8 ((if k * 4096 + j = k * 4096 + i then v else byte (k * 4096 + j) : Nat) : Int))
      rw [if_neg this]
  · rw [dif_neg hj, dif_neg hj]
    by_cases e : i = j
    · omega
    · rw [if_neg e]
theorem page_else (byte : Nat → Nat) (k n v : Nat) (h : n / 4096 ≠ k) : pageCells (fun m => if m = n then v else byte m) k = pageCells byte k := by
  unfold pageCells
  congr 1
  funext i
  have : ¬ k * 4096 + i.val = n := by have := i.isLt; omega
  show Value.int .u8 ((if k * 4096 + i.val = n then v else byte (k * 4096 + i.val) : Nat) : Int) = _
  rw [if_neg this]
def zeroCells : Array Value := Array.replicate 4096 (.int .u8 0)
set_option maxRecDepth 100000 in
theorem zero_page (W : World) : (zeroValue 142).run Try.prog W = .ok (.agg zeroCells) W := by kernel_rfl
theorem page_zero : pageCells (fun _ => 0) 0 = zeroCells := by
  apply Array.ext_getElem?
  intro j
  unfold pageCells zeroCells
  rw [Array.getElem?_ofFn, Array.getElem?_replicate]
  rfl

section
variable {w w' : World} {b bp bo bw bn : Nat} {pg : Nat → Option Nat} {R : RS}
/-- A byte is stored into a page that is there. -/
theorem RamIn.store (H : RamIn w b bp bo bw bn pg R) (n v q : Nat) (hv : v < 256) (hq : pg (n / 4096) = some q) :
    RamIn (w.setCell ⟨q, n % 4096, .none⟩ (.int .u8 v)) b bp bo bw bn pg { R with byte := fun i => if i = n then v else R.byte i } := by
  have en : n / 4096 * 4096 + n % 4096 = n := by omega
  obtain ⟨f, mo, hf⟩ := H.mo
  refine { H with
    obj := by rw [heap_set_ne _ _ _ _ _ (H.q_b hq).symm]; exact H.obj
    mp := H.mp.setCell _ _
    mo := ⟨f, mo.setCell _ _, hf⟩
    mw := MapAt.setCell H.mw _ _
    mn := MapAt.setCell H.mn _ _
    page := ?_
    zero := ?_
    ok := ⟨H.ok.p1, H.ok.p2, fun i => ?_⟩ }
  · intro k q' hq'
    by_cases e : q' = q
    · subst e
      have hk := H.inj _ _ _ hq hq'
      subst hk
      rw [heap_set_map, H.page _ _ hq]
      show some (Obj.cells _ _ _) = _
      rw [page_set _ _ _ _ (Nat.mod_lt _ (by decide)), en]
    · rw [heap_set_ne _ _ _ _ _ e, H.page k q' hq', page_else]
      intro hk
      subst hk
      rw [hq] at hq'
      exact e (by cases hq'; rfl)
  · intro k hk i hi
    have : ¬ k * 4096 + i = n := by
      intro e
      have : n / 4096 = k := by omega
      rw [this, hk] at hq
      cases hq
    show (if k * 4096 + i = n then v else _) = 0
    rw [if_neg this]
    exact H.zero k hk i hi
  · show (if i = n then v else R.byte i) < 256
    split
    · exact hv
    · exact H.ok.b i
/-- A page is made. -/
theorem RamIn.newPage (H : RamIn w b bp bo bw bn pg R) (k : Nat) (hk : pg k = .none) (hk2 : k < R.pages) {w1 : World} (hm : MapAt w1 bp .u32 (fun m => if m = k then some (.pointer (some ⟨w.heap.size, 0, .none⟩)) else pagePtr pg m))
    (hk1 : Keeps (· = bp) (w.alloc (.cells zeroCells 142)) w1) :
    RamIn w1 b bp bo bw bn (fun m => if m = k then some w.heap.size else pg m) R := by
  have hin := fun m hm => Owned.lt H (k := m) hm
  have hh : ∀ m, m < w.heap.size → m ≠ bp → w1.heap[m]? = w.heap[m]? := fun m h1 h2 => by
    rw [hk1.block m (by simp; omega) h2, Below.heap_alloc _ _ _ h1]
  obtain ⟨f, mo, hf⟩ := H.mo
  refine { H with
    obj := by rw [hh b (hin b (.inl rfl)) H.b_p]; exact H.obj
    mp := hm.ext fun m => ?_
    mo := ⟨f, mo.of_heap (hh bo mo.lt H.d1.symm), hf⟩
    mw := MapAt.of_heap H.mw (hh bw (MapAt.lt H.mw) H.d2.symm)
    mn := MapAt.of_heap H.mn (hh bn (MapAt.lt H.mn) H.d3.symm)
    page := ?_
    zero := ?_
    inj := ?_
    inside := ?_ }
  · unfold pagePtr
    by_cases e : m = k
    · simp [e]
    · simp [e]
  · intro k' q hq
    by_cases e : k' = k
    · subst e
      simp only [if_true, Option.some.injEq] at hq
      subst hq
      rw [hk1.block _ (by simp) (by have := H.mp.lt; omega), heap_new]
      have : pageCells R.byte k' = zeroCells := by
        rw [← page_zero]
        unfold pageCells
        congr 1
        funext i
        rw [H.zero k' hk i.val i.isLt]
      rw [this]
    · simp only [e, if_false] at hq
      rw [hh q (hin q (.inr (.inr (.inr (.inr (.inr ⟨k', hq⟩)))))) (H.q_p hq)]
      exact H.page k' q hq
  · intro k' hk' i hi
    by_cases e : k' = k
    · simp [e] at hk'
    · simp only [e, if_false] at hk'
      exact H.zero k' hk' i hi
  · intro k1 k2 q h1 h2
    by_cases e1 : k1 = k
    · by_cases e2 : k2 = k
      · rw [e1, e2]
      · simp only [e1, e2, if_true, if_false, Option.some.injEq] at h1 h2
        have := hin q (.inr (.inr (.inr (.inr (.inr ⟨k2, h2⟩)))))
        omega
    · by_cases e2 : k2 = k
      · simp only [e1, e2, if_true, if_false, Option.some.injEq] at h1 h2
        have := hin q (.inr (.inr (.inr (.inr (.inr ⟨k1, h1⟩)))))
        omega
      · simp only [e1, e2, if_false] at h1 h2
        exact H.inj k1 k2 q h1 h2
  · intro k' q hq
    by_cases e : k' = k
    · rw [e]; exact hk2
    · simp only [e, if_false] at hq
      exact H.inside k' q hq
/-- The watched granules' map turns. -/
theorem RamIn.turnWatched (H : RamIn w b bp bo bw bn pg R) {g : Nat → Bool} (hm : SetAt w' bw g) (hk : Keeps (· = bw) w w') : RamIn w' b bp bo bw bn pg { R with watched := g } := by
  have hin := fun m hm => Owned.lt H (k := m) hm
  obtain ⟨f, mo, hf⟩ := H.mo
  exact { H with
    obj := by rw [hk.block b (hin b (.inl rfl)) H.b_w]; exact H.obj
    mp := H.mp.of_heap (hk.block _ H.mp.lt H.d2)
    mo := ⟨f, mo.of_heap (hk.block _ mo.lt H.d4), hf⟩
    mw := hm
    mn := MapAt.of_heap H.mn (hk.block _ (MapAt.lt H.mn) H.d6.symm)
    page := fun k q hq => by rw [hk.block q (heap_lt (H.page k q hq)) (H.q_w hq)]; exact H.page k q hq
    ok := ⟨H.ok.p1, H.ok.p2, H.ok.b⟩ }
/-- The noted granules' map turns. -/
theorem RamIn.turnNoted (H : RamIn w b bp bo bw bn pg R) {g : Nat → Bool} (hm : SetAt w' bn g) (hk : Keeps (· = bn) w w') : RamIn w' b bp bo bw bn pg { R with noted := g } := by
  have hin := fun m hm => Owned.lt H (k := m) hm
  obtain ⟨f, mo, hf⟩ := H.mo
  exact { H with
    obj := by rw [hk.block b (hin b (.inl rfl)) H.b_n]; exact H.obj
    mp := H.mp.of_heap (hk.block _ H.mp.lt H.d3)
    mo := ⟨f, mo.of_heap (hk.block _ mo.lt H.d5), hf⟩
    mw := MapAt.of_heap H.mw (hk.block _ (MapAt.lt H.mw) H.d6)
    mn := hm
    page := fun k q hq => by rw [hk.block q (heap_lt (H.page k q hq)) (H.q_n hq)]; exact H.page k q hq
    ok := ⟨H.ok.p1, H.ok.p2, H.ok.b⟩ }
/-- The map of pages that can only be read turns. -/
theorem RamIn.turnOnly (H : RamIn w b bp bo bw bn pg R) {g : Nat → Bool} (hm : MarkAt w' bo g) (hk : Keeps (· = bo) w w') : RamIn w' b bp bo bw bn pg { R with only := g } := by
  have hin := fun m hm => Owned.lt H (k := m) hm
  exact { H with
    obj := by rw [hk.block b (hin b (.inl rfl)) H.b_o]; exact H.obj
    mp := H.mp.of_heap (hk.block _ H.mp.lt H.d1)
    mo := hm
    mw := MapAt.of_heap H.mw (hk.block _ (MapAt.lt H.mw) H.d4.symm)
    mn := MapAt.of_heap H.mn (hk.block _ (MapAt.lt H.mn) H.d5.symm)
    page := fun k q hq => by rw [hk.block q (heap_lt (H.page k q hq)) (H.q_o hq)]; exact H.page k q hq
    ok := ⟨H.ok.p1, H.ok.p2, H.ok.b⟩ }
theorem Owned.newPage {k m : Nat} (n : Nat) (h : Owned b bp bo bw bn (fun m => if m = k then some n else pg m) m) : Owned b bp bo bw bn pg m ∨ m = n := by
  rcases h with h | h | h | h | h | ⟨j, hj⟩
  · exact .inl (.inl h)
  · exact .inl (.inr (.inl h))
  · exact .inl (.inr (.inr (.inl h)))
  · exact .inl (.inr (.inr (.inr (.inl h))))
  · exact .inl (.inr (.inr (.inr (.inr (.inl h)))))
  · by_cases e : j = k
    · simp only [e, if_true, Option.some.injEq] at hj
      exact .inr hj.symm
    · simp only [e, if_false] at hj
      exact .inl (.inr (.inr (.inr (.inr (.inr ⟨j, hj⟩)))))
end

set_option maxHeartbeats 1000000 in
theorem get_any {w : World} {b bp bo bw bn : Nat} {pg : Nat → Option Nat} {R : RS} (H : RamIn w b bp bo bw bn pg R) (a : Nat) (ha : a < 4294967296) :
    Calls Try.prog 54 #[.pointer (some ⟨b, 0, .none⟩), .int .u32 a] w fun e w' => e = .returned (.int .u8 (R.get a : Nat)) ∧ ∃ n, w' = w.drewN n := by
  obtain ⟨-, k1, -, -, -, -, kf, klt⟩ := H.facts
  have hpl := R.place_le a
  have hsz := RS.size_le H.ok
  have hpa := place_any H a ha
  have hg : R.get a = if R.place a < R.size then R.byte (R.place a) else 255 := rfl
  have HG := Lib.hid hg
  clear hg
  generalize R.place a = p at *
  have HP := Lib.hid hpa
  clear hpa
  by_cases hs : p < R.size
  · have hd : decide (p < R.size) = true := decide_eq_true hs
    have hx : ((p : Int) / 4096) = ((p / 4096 : Nat) : Int) := by omega
    have hm : ((p : Int) % 4096) = ((p % 4096 : Nat) : Int) := by omega
    rcases hq : pg (p / 4096) with _ | q
    · have hb : R.byte p = 0 := by
        have := H.zero _ hq (p % 4096) (Nat.mod_lt _ (by decide))
        rwa [show p / 4096 * 4096 + p % 4096 = p by omega] at this
      go_enter Try.func54, Try.ntmps54
      go_wp2_with fail
      refine HP.out.mono ?_
      rintro e w1 ⟨rfl, n, rfl⟩
      rw [hd]
      have hl := pages_lookup (H.mp.drewN n) _ hx
      rw [hq] at hl
      clear hx hm hd hq
      go_wp2_with fail
      go_ret
      refine ⟨?_, n, rfl⟩
      rw [HG.out, if_pos hs, hb]; rfl
    · have hc := page_cell (H.page _ _ hq) (Nat.mod_lt p (show 0 < 4096 by decide))
      rw [show p / 4096 * 4096 + p % 4096 = p by omega] at hc
      have hb := H.ok.b p
      go_enter Try.func54, Try.ntmps54
      go_wp2_with fail
      refine HP.out.mono ?_
      rintro e w1 ⟨rfl, n, rfl⟩
      rw [hd]
      have hl := pages_lookup (H.mp.drewN n) _ hx
      rw [hq, Option.map_some] at hl
      have HQ := Lib.hid hq
      clear hx hd hm hq
      go_wp2_with fail
      go_ret
      refine ⟨?_, n, rfl⟩
      rw [HG.out, if_pos hs]; rfl
  · have hd : decide (p < R.size) = false := decide_eq_false hs
    go_enter Try.func54, Try.ntmps54
    go_wp2_with fail
    refine HP.out.mono ?_
    rintro e w1 ⟨rfl, n, rfl⟩
    rw [hd]
    clear hd
    go_wp2_with fail
    go_ret
    refine ⟨?_, n, rfl⟩
    rw [HG.out, if_neg hs]; rfl
end Go.Proofs.Ytojmpdddfnkffaa

/- ram: a byte is laid. -/
namespace Go.Proofs.Ytojmpdddfnkffaa
open Go.RowKit Go.MapKept
set_option linter.unusedVariables false

theorem RS.lay_quiet (R : RS) (n v : Nat) (h : R.watched (n / 64) = false) : R.lay n v = { R with byte := fun i => if i = n then v else R.byte i } := by
  unfold RS.lay
  congr 1
  · funext g
    by_cases e : g = n / 64
    · rw [if_pos e, e, h]
    · rw [if_neg e]
  · funext k
    rw [if_neg]
    rintro ⟨_, h2⟩
    rw [h] at h2
    cases h2
theorem RS.lay_loud (R : RS) (n v : Nat) (h : R.watched (n / 64) = true) :
    R.lay n v = { R with byte := fun i => if i = n then v else R.byte i, watched := fun g => if g = n / 64 then false else R.watched g, noted := fun k => if k = n / 64 * 64 then true else R.noted k } := by
  unfold RS.lay
  congr 1
  funext k
  by_cases e : k = n / 64 * 64
  · rw [if_pos ⟨e, h⟩, if_pos e]
  · rw [if_neg (fun x => e x.1), if_neg e]
theorem set_del (g : Nat → Bool) (x : Nat) (m : Nat) : (if (if m = x then false else g m) then some (Value.bool true) else none) = (if m = x then none else (if g m then some (Value.bool true) else none)) := by
  by_cases e : m = x <;> simp [e]
theorem set_put (g : Nat → Bool) (x : Nat) (m : Nat) : (if (if m = x then true else g m) then some (Value.bool true) else none) = (if m = x then some (Value.bool true) else (if g m then some (Value.bool true) else none)) := by
  by_cases e : m = x <;> simp [e]

theorem Keeps.one {S : Nat → Prop} {a b c : World} {r : Nat} (h : Keeps S a b) (k : Keeps (· = r) b c) (hr : S r) : Keeps S a c := h.andThen k fun i _ e => by rw [e]; exact hr
theorem SetAt.look {w : World} {g : Nat → Bool} {r n : Nat} {v : Bool} (h : SetAt w r g) (hv : g n = v) (x : Int) (hx : x = (n : Int)) : (Instr.lookup 90 (.map (some r)) (.int .u32 x) false).run Try.prog w = .ok (.bool v) w := by
  rw [← hv]; exact SetAt.lookup h x hx
theorem MarkAt.look {w : World} {g : Nat → Bool} {r n : Nat} {v : Bool} (h : MarkAt w r g) (hv : g n = v) (x : Int) (hx : x = (n : Int)) : (Instr.lookup 90 (.map (some r)) (.int .u32 x) false).run Try.prog w = .ok (.bool v) w := by
  rw [← hv]; exact MarkAt.lookup h x hx

set_option maxHeartbeats 1000000 in
theorem put_old {w : World} {b bp bo bw bn : Nat} {pg : Nat → Option Nat} {R : RS} (H : RamIn w b bp bo bw bn pg R) (a v : Nat) (ha : a < 4294967296) (hv : v < 256) (hs : R.place a < R.size) (q : Nat) (hq : pg (R.place a / 4096) = some q) :
    Calls Try.prog 53 #[.pointer (some ⟨b, 0, .none⟩), .int .u32 a, .int .u8 v] w fun e w' => e = .returned (.tuple #[]) ∧ RamIn w' b bp bo bw bn pg (R.put a v) ∧ Keeps (Owned b bp bo bw bn pg) w w' := by
  obtain ⟨-, k1, -, -, -, -, kf, klt⟩ := H.facts
  have hpl := R.place_le a
  have hsz := RS.size_le H.ok
  have hpa := place_any H a ha
  have hg : R.put a v = R.lay (R.place a) v := by unfold RS.put; rw [if_pos hs]
  have HG := Lib.hid hg
  clear hg
  generalize R.place a = p at *
  have HP := Lib.hid hpa
  clear hpa
  have hd : decide (p < R.size) = true := decide_eq_true hs
  have hx : ((p : Int) / 4096) = ((p / 4096 : Nat) : Int) := by omega
  have hc := page_cell (H.page _ _ hq) (Nat.mod_lt p (show 0 < 4096 by decide))
  have hf : ∀ k, w.frozen? ⟨q, k, .none⟩ = false := fun k => free_at (H.page _ _ hq)
  go_enter Try.func53, Try.ntmps53
  go_wp2_with fail
  refine HP.out.mono ?_
  rintro e w1 ⟨rfl, n, rfl⟩
  rw [hd]
  have hl := pages_lookup (H.mp.drewN n) _ hx
  rw [hq, Option.map_some] at hl
  have HQ := Lib.hid hq
  have HX := Lib.hid hx
  clear hx hd hq
  go_upto_region 7 with (fail)
  have H1 := (H.drewN n).store p v q hv HQ.out
  have K1 : Keeps (Owned b bp bo bw bn pg) w ((w.drewN n).setCell ⟨q, p % 4096, .none⟩ (.int .u8 v)) := ((Keeps.refl _ w).drewN n).setCell (.inl (.inr (.inr (.inr (.inr (.inr ⟨_, HQ.out⟩)))))) _
  generalize (w.drewN n).setCell ⟨q, p % 4096, .none⟩ (.int .u8 v) = W1 at *
  clear hl hc hf k1 kf klt
  obtain ⟨-, -, -, k3, k4, -, kf, klt⟩ := H1.facts
  have hx : ((p : Int) / 64) = ((p / 64 : Nat) : Int) := by omega
  cases hw : R.watched (p / 64)
  · have hl := SetAt.look H1.mw hw _ hx
    have HW := Lib.hid hw
    clear hx hw
    go_wp2_with fail
    go_end0
    exact ⟨rfl, by rw [HG.out, RS.lay_quiet _ _ _ HW.out]; exact H1, K1⟩
  · have hl := SetAt.look H1.mw hw _ hx
    have HW := Lib.hid hw
    have hx2 : ((p : Int) / 64 * 64) = ((p / 64 * 64 : Nat) : Int) := by omega
    obtain ⟨W2, hdel, M2, K2⟩ := MapAt.delete H1.mw Try.underlying90 Try.underlying33 (p / 64) _ hx 33 0
    have M2 : SetAt W2 bw (fun m => if m = p / 64 then false else R.watched m) := M2.ext (fun m => set_del R.watched (p / 64) m)
    have H2 := H1.turnWatched M2 K2
    obtain ⟨W3, hput, M3, K3⟩ := MapAt.update H2.mn Try.underlying90 Try.underlying33 (p / 64 * 64) _ hx2 (.bool true)
    have M3 : SetAt W3 bn (fun m => if m = p / 64 * 64 then true else R.noted m) := M3.ext (fun m => set_put R.noted (p / 64 * 64) m)
    have H3 := H2.turnNoted M3 K3
    obtain ⟨-, -, -, -, q4, -, -, -⟩ := H2.facts
    clear hx hx2 hw M2 M3 H2
    go_wp2_with fail
    go_end0
    refine ⟨rfl, by rw [HG.out, RS.lay_loud _ _ _ HW.out]; exact H3, ?_⟩
    exact (K1.one K2 (.inr (.inr (.inr (.inl rfl))))).one K3 (.inr (.inr (.inr (.inr (.inl rfl)))))
set_option maxHeartbeats 1000000 in
theorem put_new {w : World} {b bp bo bw bn : Nat} {pg : Nat → Option Nat} {R : RS} (H : RamIn w b bp bo bw bn pg R) (a v : Nat) (ha : a < 4294967296) (hv : v < 256) (hs : R.place a < R.size) (hq : pg (R.place a / 4096) = .none) :
    Calls Try.prog 53 #[.pointer (some ⟨b, 0, .none⟩), .int .u32 a, .int .u8 v] w fun e w' => e = .returned (.tuple #[]) ∧ RamIn w' b bp bo bw bn (fun m => if m = R.place a / 4096 then some w.heap.size else pg m) (R.put a v) ∧ Keeps (Owned b bp bo bw bn pg) w w' := by
  obtain ⟨-, k1, -, -, -, -, kf, klt⟩ := H.facts
  have hpl := R.place_le a
  have hsz := RS.size_le H.ok
  have hpa := place_any H a ha
  have hg : R.put a v = R.lay (R.place a) v := by unfold RS.put; rw [if_pos hs]
  have HG := Lib.hid hg
  clear hg
  generalize R.place a = p at *
  have HP := Lib.hid hpa
  clear hpa
  have hd : decide (p < R.size) = true := decide_eq_true hs
  have hx : ((p : Int) / 4096) = ((p / 4096 : Nat) : Int) := by omega
  have hin : p / 4096 < R.pages := by unfold RS.size at hs; omega
  go_enter Try.func53, Try.ntmps53
  go_wp2_with fail
  refine HP.out.mono ?_
  rintro e w1 ⟨rfl, n, rfl⟩
  rw [hd]
  have hl := pages_lookup (H.mp.drewN n) _ hx
  rw [hq, Option.map_none] at hl
  have HQ := Lib.hid hq
  have HX := Lib.hid hx
  clear hx hd hq
  have hzp := zero_page
  go_upto_region 5 with (fail)
  have hx := HX.out
  obtain ⟨W0, hput, M0, K0⟩ := MapAt.update ((H.mp.drewN n).alloc (.cells zeroCells 142)) Try.underlying89 Try.underlying33 (p / 4096) _ hx (.pointer (some ⟨w.heap.size, 0, .none⟩))
  have H0 : RamIn W0 b bp bo bw bn (fun m => if m = p / 4096 then some w.heap.size else pg m) R := (H.drewN n).newPage (p / 4096) HQ.out hin M0 K0
  have j1 := (((H.drewN n).alloc (.cells zeroCells 142)).facts).2.1
  have hsame : (fun m => if m = p / 4096 then some w.heap.size else pg m) (p / 4096) = some w.heap.size := by simp
  have hpage := H0.page _ _ hsame
  have hc := page_cell hpage (Nat.mod_lt p (show 0 < 4096 by decide))
  have hf : ∀ k, W0.frozen? ⟨w.heap.size, k, .none⟩ = false := fun k => free_at hpage
  have j2 := H0.facts.2.2.2.2.2.2.2
  have HS := Lib.hid hsame
  clear hl hx M0 hpage hsame k1 kf klt
  go_upto_region 7 with (fail)
  have hsame := HS.out
  have H1 := H0.store p v w.heap.size hv hsame
  have K1 : Keeps (Owned b bp bo bw bn pg) w (W0.setCell ⟨w.heap.size, p % 4096, .none⟩ (.int .u8 v)) :=
    ((((Keeps.refl _ w).drewN n).alloc _).one K0 (.inr (.inl rfl))).setCell (.inr (Nat.le_refl _)) _
  generalize W0.setCell ⟨w.heap.size, p % 4096, .none⟩ (.int .u8 v) = W1 at *
  clear hc hf j1 j2 hzp hsame
  obtain ⟨-, -, -, k3, k4, -, kf, klt⟩ := H1.facts
  have hx : ((p : Int) / 64) = ((p / 64 : Nat) : Int) := by omega
  cases hw : R.watched (p / 64)
  · have hl := SetAt.look H1.mw hw _ hx
    have HW := Lib.hid hw
    clear hx hw
    go_wp2_with fail
    go_end0
    exact ⟨rfl, by rw [HG.out, RS.lay_quiet _ _ _ HW.out]; exact H1, K1⟩
  · have hl := SetAt.look H1.mw hw _ hx
    have HW := Lib.hid hw
    have hx2 : ((p : Int) / 64 * 64) = ((p / 64 * 64 : Nat) : Int) := by omega
    obtain ⟨W2, hdel, M2, K2⟩ := MapAt.delete H1.mw Try.underlying90 Try.underlying33 (p / 64) _ hx 33 0
    have M2 : SetAt W2 bw (fun m => if m = p / 64 then false else R.watched m) := M2.ext (fun m => set_del R.watched (p / 64) m)
    have H2 := H1.turnWatched M2 K2
    obtain ⟨W3, hput, M3, K3⟩ := MapAt.update H2.mn Try.underlying90 Try.underlying33 (p / 64 * 64) _ hx2 (.bool true)
    have M3 : SetAt W3 bn (fun m => if m = p / 64 * 64 then true else R.noted m) := M3.ext (fun m => set_put R.noted (p / 64 * 64) m)
    have H3 := H2.turnNoted M3 K3
    obtain ⟨-, -, -, -, q4, -, -, -⟩ := H2.facts
    clear hx hx2 hw M2 M3 H2
    go_wp2_with fail
    go_end0
    refine ⟨rfl, by rw [HG.out, RS.lay_loud _ _ _ HW.out]; exact H3, ?_⟩
    exact (K1.one K2 (.inr (.inr (.inr (.inl rfl))))).one K3 (.inr (.inr (.inr (.inr (.inl rfl)))))
end Go.Proofs.Ytojmpdddfnkffaa

/- ram: Read, Write. -/
namespace Go.Proofs.Ytojmpdddfnkffaa
open Go.RowKit Go.MapKept
set_option linter.unusedVariables false

theorem Ram.lt {w : World} {b : Nat} {S : Nat → Prop} {R : RS} (H : Ram w b S R) {k : Nat} (h : S k) : k < w.heap.size := by
  obtain ⟨bp, bo, bw, bn, pg, I, hS⟩ := H
  exact Owned.lt I ((hS k).1 h)
theorem Ram.own {w : World} {b : Nat} {S : Nat → Prop} {R : RS} (H : Ram w b S R) : S b := by
  obtain ⟨bp, bo, bw, bn, pg, I, hS⟩ := H
  exact (hS b).2 (.inl rfl)
theorem Ram.isok {w : World} {b : Nat} {S : Nat → Prop} {R : RS} (H : Ram w b S R) : R.ok := by
  obtain ⟨bp, bo, bw, bn, pg, I, hS⟩ := H
  exact I.ok
theorem Ram.keeps {w w' : World} {b : Nat} {S T : Nat → Prop} {R : RS} (H : Ram w b S R) (hk : Keeps T w w') (hn : ∀ k, S k → ¬ T k) : Ram w' b S R := by
  obtain ⟨bp, bo, bw, bn, pg, I, hS⟩ := H
  exact ⟨bp, bo, bw, bn, pg, I.keeps hk fun k hk' => hn k ((hS k).2 hk'), hS⟩
theorem Ram.below {w w' : World} {b : Nat} {S : Nat → Prop} {R : RS} (H : Ram w b S R) (hb : Below w.heap.size w w') : Ram w' b S R :=
  H.keeps (Keeps.ofBelow (S := fun _ => False) hb) fun _ _ h => h
theorem Ram.drewN {w : World} {b : Nat} {S : Nat → Prop} {R : RS} (H : Ram w b S R) (n : Nat) : Ram (w.drewN n) b S R := H.keeps ((Keeps.refl (fun _ => False) _).drewN n) fun _ _ h => h
theorem Ram.alloc {w : World} {b : Nat} {S : Nat → Prop} {R : RS} (H : Ram w b S R) (o : Obj) : Ram (w.alloc o) b S R := H.keeps ((Keeps.refl (fun _ => False) _).alloc o) fun _ _ h => h

set_option maxHeartbeats 1000000 in
theorem put_out {w : World} {b bp bo bw bn : Nat} {pg : Nat → Option Nat} {R : RS} (H : RamIn w b bp bo bw bn pg R) (a v : Nat) (ha : a < 4294967296) (hs : ¬ R.place a < R.size) :
    Calls Try.prog 53 #[.pointer (some ⟨b, 0, .none⟩), .int .u32 a, .int .u8 v] w fun e w' => e = .returned (.tuple #[]) ∧ ∃ n, w' = w.drewN n := by
  have hpa := place_any H a ha
  have HP := Lib.hid hpa
  clear hpa
  have hd : decide (R.place a < R.size) = false := decide_eq_false hs
  have HD := Lib.hid hd
  clear hd
  go_enter Try.func53, Try.ntmps53
  go_wp2_with fail
  refine HP.out.mono ?_
  rintro e w1 ⟨rfl, n, rfl⟩
  rw [HD.out]
  go_wp2_with fail
  go_returns
  exact ⟨rfl, n, rfl⟩
theorem put_any {w : World} {b : Nat} {S : Nat → Prop} {R : RS} (H : Ram w b S R) (a v : Nat) (ha : a < 4294967296) (hv : v < 256) :
    Calls Try.prog 53 #[.pointer (some ⟨b, 0, .none⟩), .int .u32 a, .int .u8 v] w fun e w' => e = .returned (.tuple #[]) ∧ ∃ S', Ram w' b S' (R.put a v) ∧ Moves S S' w w' := by
  obtain ⟨bp, bo, bw, bn, pg, I, hS⟩ := H
  have mono : ∀ {T : Nat → Prop} {w' : World}, Keeps (Owned b bp bo bw bn pg) w w' → Keeps S w w' := fun h => h.mono fun k _ hk => (hS k).2 hk
  by_cases hs : R.place a < R.size
  · rcases hq : pg (R.place a / 4096) with _ | q
    · refine (put_new I a v ha hv hs hq).mono ?_
      rintro e w' ⟨rfl, I', K⟩
      refine ⟨rfl, _, ⟨bp, bo, bw, bn, _, I', fun k => Iff.rfl⟩, mono (T := S) K, fun k hk => ?_⟩
      rcases Owned.newPage _ hk with h | h
      · exact .inl ((hS k).2 h)
      · exact .inr (Nat.le_of_eq h.symm)
    · refine (put_old I a v ha hv hs q hq).mono ?_
      rintro e w' ⟨rfl, I', K⟩
      exact ⟨rfl, S, ⟨bp, bo, bw, bn, pg, I', hS⟩, mono (T := S) K, fun k hk => .inl hk⟩
  · refine (put_out I a v ha hs).mono ?_
    rintro e w' ⟨rfl, n, rfl⟩
    refine ⟨rfl, S, ⟨bp, bo, bw, bn, pg, ?_, hS⟩, Moves.drewN S w n⟩
    have : R.put a v = R := by unfold RS.put; rw [if_neg hs]
    rw [this]; exact I.drewN n
theorem put_anyv {w : World} {b : Nat} {S : Nat → Prop} {R : RS} (H : Ram w b S R) (a v : Nat) (x y : Int) (hx : x = (a : Int)) (hy : y = (v : Int)) (ha : a < 4294967296) (hv : v < 256) :
    Calls Try.prog 53 #[.pointer (some ⟨b, 0, .none⟩), .int .u32 x, .int .u8 y] w fun e w' => e = .returned (.tuple #[]) ∧ ∃ S', Ram w' b S' (R.put a v) ∧ Moves S S' w w' := by
  rw [hx, hy]; exact put_any H a v ha hv
theorem get_anyv {w : World} {b : Nat} {S : Nat → Prop} {R : RS} (H : Ram w b S R) (a : Nat) (x : Int) (hx : x = (a : Int)) (ha : a < 4294967296) :
    Calls Try.prog 54 #[.pointer (some ⟨b, 0, .none⟩), .int .u32 x] w fun e w' => e = .returned (.int .u8 (R.get a : Nat)) ∧ ∃ n, w' = w.drewN n := by
  obtain ⟨bp, bo, bw, bn, pg, I, hS⟩ := H
  rw [hx]; exact get_any I a ha
theorem place_anyv {w : World} {b : Nat} {S : Nat → Prop} {R : RS} (H : Ram w b S R) (a : Nat) (x : Int) (hx : x = (a : Int)) (ha : a < 4294967296) :
    Calls Try.prog 52 #[.pointer (some ⟨b, 0, .none⟩), .int .u32 x] w fun e w' => e = .returned (.tuple #[.int .u32 (R.place a : Nat), .bool (decide (R.place a < R.size))]) ∧ ∃ n, w' = w.drewN n := by
  obtain ⟨bp, bo, bw, bn, pg, I, hS⟩ := H
  rw [hx]; exact place_any I a ha

/-- The i-th address behind a. -/
def at32 (a i : Nat) : Nat := (a + i) % 4294967296
theorem at32_lt (a i : Nat) : at32 a i < 4294967296 := Nat.mod_lt _ (by decide)
/-- The lowest k bytes from a on. -/
def RS.read (R : RS) (a : Nat) : Nat → Nat
  | 0 => 0
  | k + 1 => R.read a k + R.get (at32 a k) * 256 ^ k
theorem RS.read_lt {R : RS} (h : R.ok) (a k : Nat) : R.read a k < 256 ^ k := by
  induction k with
  | zero => simp [RS.read]
  | succ k ih =>
    have h1 := RS.get_lt h (at32 a k)
    rw [RS.read, Nat.pow_succ]
    have h2 : R.get (at32 a k) * 256 ^ k ≤ 255 * 256 ^ k := Nat.mul_le_mul_right _ (by omega)
    omega
/-- The lowest k bytes of v are written from a on. -/
def RS.write (R : RS) (a v : Nat) : Nat → RS
  | 0 => R
  | k + 1 => (R.write a v k).wr (at32 a k) (v / 256 ^ k % 256)
theorem RS.write_ok {R : RS} (h : R.ok) (a v k : Nat) : (R.write a v k).ok := by
  induction k with
  | zero => exact h
  | succ k ih => exact RS.wr_ok ih _ _ (Nat.mod_lt _ (by decide))
def goodSize (s : Int) : Prop := s = 1 ∨ s = 2 ∨ s = 4

theorem or_shift (v b k : Nat) (hv : v < 256 ^ k) (hb : b < 256) (hk : k < 4) : bits .or .u32 (v : Int) ((b : Int) * 2 ^ (8 * k) % 4294967296) = ((v + b * 256 ^ k : Nat) : Int) := by
  have hp : (256 : Nat) ^ k = 2 ^ (8 * k) := by rw [Nat.pow_mul]
  have hle : b * 256 ^ k ≤ 255 * 256 ^ k := Nat.mul_le_mul_right _ (by omega)
  have h3 : 256 ^ k ≤ 256 ^ 3 := Nat.pow_le_pow_right (by decide) (by omega)
  have e : ((b : Int) * 2 ^ (8 * k) % 4294967296) = ((b * 256 ^ k : Nat) : Int) := by
    rw [hp]
    rw [hp] at hle h3
    rw [Int.emod_eq_of_lt]
    · simp
    · exact Int.mul_nonneg (by omega) (Int.pow_nonneg (by decide))
    · have : ((b : Int) * 2 ^ (8 * k)) = ((b * 2 ^ (8 * k) : Nat) : Int) := by simp
      rw [this]; omega
  rw [e, u32_or_nat _ _ (by omega) (by omega), Nat.or_comm]
  congr 1
  rw [Nat.add_comm, hp]
  rw [hp] at hv
  exact nat_join (8 * k) _ _ (by simp) hv

set_option maxHeartbeats 1000000 in
theorem read_1 {w : World} {b : Nat} {S : Nat → Prop} {R : RS} (H : Ram w b S R) (a : Nat) (ha : a < 4294967296) :
    Calls Try.prog 22 #[.pointer (some ⟨b, 0, .none⟩), .int .u32 a, .int .i64 1] w fun e w' => e = .returned (.tuple #[.int .u32 (R.read a 1 : Nat), .int .i64 0]) ∧ ∃ n, w' = w.drewN n := by
  go_enter Try.func22, Try.ntmps22
  go_wp2_with fail
  go_loopw [8, 26] (fun v i wr => ∃ k : Nat, k ≤ 1 ∧ i = .int .u32 k ∧ v = .int .u32 (R.read a k : Nat) ∧ ∃ n, wr = w.drewN n) (fun _ i _ => 1 - (intOf i).toNat)
  case atStart => exact ⟨0, by omega, rfl, rfl, 0, rfl⟩
  case round =>
    obtain ⟨k, hk, rfl, rfl, n, rfl⟩ := hrel
    by_cases hlt : k < 1
    · go_wp2_with fail
      refine (get_anyv (H.drewN n) (at32 a k) _ (by unfold at32; omega) (at32_lt _ _)).mono ?_
      rintro e w1 ⟨rfl, n2, rfl⟩
      have hb := RS.get_lt H.isok (at32 a k)
      have hr := RS.read_lt H.isok a k
      have hr2 : 256 ^ k ≤ 256 ^ 3 := Nat.pow_le_pow_right (by decide) (by omega)
      have HR := Lib.hid (show R.read a (k + 1) = R.read a k + R.get (at32 a k) * 256 ^ k from rfl)
      have HO := Lib.hid (or_shift (R.read a k) (R.get (at32 a k)) k hr hb (by omega))
      generalize R.read a k = x at *
      generalize R.get (at32 a k) = y at *
      go_wp2_with fail
      go_roundw
      case rel => exact ⟨k + 1, by omega, by go_num, by rw [HR.out, HO.out], _, rfl⟩
      case measure => (simp [intOf]) <;> omega
    · have hk2 : k = 1 := by omega
      have HK := Lib.hid hk2
      clear hk2
      go_wp2_with fail
      go_ret2
      exact ⟨by rw [HK.out]; rfl, n, rfl⟩
set_option maxHeartbeats 1000000 in
theorem read_2 {w : World} {b : Nat} {S : Nat → Prop} {R : RS} (H : Ram w b S R) (a : Nat) (ha : a < 4294967296) :
    Calls Try.prog 22 #[.pointer (some ⟨b, 0, .none⟩), .int .u32 a, .int .i64 2] w fun e w' => e = .returned (.tuple #[.int .u32 (R.read a 2 : Nat), .int .i64 0]) ∧ ∃ n, w' = w.drewN n := by
  go_enter Try.func22, Try.ntmps22
  go_wp2_with fail
  go_loopw [8, 26] (fun v i wr => ∃ k : Nat, k ≤ 2 ∧ i = .int .u32 k ∧ v = .int .u32 (R.read a k : Nat) ∧ ∃ n, wr = w.drewN n) (fun _ i _ => 2 - (intOf i).toNat)
  case atStart => exact ⟨0, by omega, rfl, rfl, 0, rfl⟩
  case round =>
    obtain ⟨k, hk, rfl, rfl, n, rfl⟩ := hrel
    by_cases hlt : k < 2
    · go_wp2_with fail
      refine (get_anyv (H.drewN n) (at32 a k) _ (by unfold at32; omega) (at32_lt _ _)).mono ?_
      rintro e w1 ⟨rfl, n2, rfl⟩
      have hb := RS.get_lt H.isok (at32 a k)
      have hr := RS.read_lt H.isok a k
      have hr2 : 256 ^ k ≤ 256 ^ 3 := Nat.pow_le_pow_right (by decide) (by omega)
      have HR := Lib.hid (show R.read a (k + 1) = R.read a k + R.get (at32 a k) * 256 ^ k from rfl)
      have HO := Lib.hid (or_shift (R.read a k) (R.get (at32 a k)) k hr hb (by omega))
      generalize R.read a k = x at *
      generalize R.get (at32 a k) = y at *
      go_wp2_with fail
      go_roundw
      case rel => exact ⟨k + 1, by omega, by go_num, by rw [HR.out, HO.out], _, rfl⟩
      case measure => (simp [intOf]) <;> omega
    · have hk2 : k = 2 := by omega
      have HK := Lib.hid hk2
      clear hk2
      go_wp2_with fail
      go_ret2
      exact ⟨by rw [HK.out]; rfl, n, rfl⟩
set_option maxHeartbeats 1000000 in
theorem read_4 {w : World} {b : Nat} {S : Nat → Prop} {R : RS} (H : Ram w b S R) (a : Nat) (ha : a < 4294967296) :
    Calls Try.prog 22 #[.pointer (some ⟨b, 0, .none⟩), .int .u32 a, .int .i64 4] w fun e w' => e = .returned (.tuple #[.int .u32 (R.read a 4 : Nat), .int .i64 0]) ∧ ∃ n, w' = w.drewN n := by
  go_enter Try.func22, Try.ntmps22
  go_wp2_with fail
  go_loopw [8, 26] (fun v i wr => ∃ k : Nat, k ≤ 4 ∧ i = .int .u32 k ∧ v = .int .u32 (R.read a k : Nat) ∧ ∃ n, wr = w.drewN n) (fun _ i _ => 4 - (intOf i).toNat)
  case atStart => exact ⟨0, by omega, rfl, rfl, 0, rfl⟩
  case round =>
    obtain ⟨k, hk, rfl, rfl, n, rfl⟩ := hrel
    by_cases hlt : k < 4
    · go_wp2_with fail
      refine (get_anyv (H.drewN n) (at32 a k) _ (by unfold at32; omega) (at32_lt _ _)).mono ?_
      rintro e w1 ⟨rfl, n2, rfl⟩
      have hb := RS.get_lt H.isok (at32 a k)
      have hr := RS.read_lt H.isok a k
      have hr2 : 256 ^ k ≤ 256 ^ 3 := Nat.pow_le_pow_right (by decide) (by omega)
      have HR := Lib.hid (show R.read a (k + 1) = R.read a k + R.get (at32 a k) * 256 ^ k from rfl)
      have HO := Lib.hid (or_shift (R.read a k) (R.get (at32 a k)) k hr hb (by omega))
      generalize R.read a k = x at *
      generalize R.get (at32 a k) = y at *
      go_wp2_with fail
      go_roundw
      case rel => exact ⟨k + 1, by omega, by go_num, by rw [HR.out, HO.out], _, rfl⟩
      case measure => (simp [intOf]) <;> omega
    · have hk2 : k = 4 := by omega
      have HK := Lib.hid hk2
      clear hk2
      go_wp2_with fail
      go_ret2
      exact ⟨by rw [HK.out]; rfl, n, rfl⟩
theorem read_any {w : World} {b : Nat} {S : Nat → Prop} {R : RS} (H : Ram w b S R) (a : Nat) (ha : a < 4294967296) (s : Nat) (hs : s = 1 ∨ s = 2 ∨ s = 4) :
    Calls Try.prog 22 #[.pointer (some ⟨b, 0, .none⟩), .int .u32 a, .int .i64 (s : Nat)] w fun e w' => e = .returned (.tuple #[.int .u32 (R.read a s : Nat), .int .i64 0]) ∧ ∃ n, w' = w.drewN n := by
  rcases hs with rfl | rfl | rfl
  · exact read_1 H a ha
  · exact read_2 H a ha
  · exact read_4 H a ha
set_option maxHeartbeats 1000000 in
theorem read_bad {w : World} {b : Nat} (a s : Int) (h1 : s ≠ 1) (h2 : s ≠ 2) (h4 : s ≠ 4) :
    Calls Try.prog 22 #[.pointer (some ⟨b, 0, .none⟩), .int .u32 a, .int .i64 s] w fun e w' => e = .returned (.tuple #[.int .u32 0, .int .i64 2]) ∧ w = w' := by
  have g1 : (s != 1) = true := by simpa using h1
  have g2 : (s != 2) = true := by simpa using h2
  have g4 : (s != 4) = true := by simpa using h4
  go_enter Try.func22, Try.ntmps22
  go_wp2_with fail
  go_ret2
  exact ⟨rfl, rfl⟩
set_option maxHeartbeats 1000000 in
theorem read_nil {w : World} (a s : Int) :
    Calls Try.prog 22 #[.pointer .none, .int .u32 a, .int .i64 s] w fun e w' => e = .returned (.tuple #[.int .u32 0, .int .i64 1]) ∧ w = w' := by
  go_enter Try.func22, Try.ntmps22
  go_wp2_with fail
  go_ret2
  exact ⟨rfl, rfl⟩
theorem shr_byte (v k : Nat) : ((v : Int) / 2 ^ (8 * k) % 256) = ((v / 256 ^ k % 256 : Nat) : Int) := by
  have hp : (256 : Nat) ^ k = 2 ^ (8 * k) := by rw [Nat.pow_mul]
  rw [hp]; simp
theorem wr_no (R : RS) (a v : Nat) (h : ¬ (R.place a < R.size ∧ R.only (R.place a / 4096) = false)) : R.wr a v = R := by unfold RS.wr; rw [if_neg h]
theorem wr_yes (R : RS) (a v : Nat) (h1 : R.place a < R.size) (h2 : R.only (R.place a / 4096) = false) : R.wr a v = R.put a v := by unfold RS.wr RS.put; rw [if_pos ⟨h1, h2⟩, if_pos h1]

set_option maxHeartbeats 2000000 in
theorem write_1 {w : World} {b : Nat} {S : Nat → Prop} {R : RS} (H : Ram w b S R) (a v : Nat) (ha : a < 4294967296) (hv : v < 4294967296) :
    Calls Try.prog 21 #[.pointer (some ⟨b, 0, .none⟩), .int .u32 a, .int .i64 1, .int .u32 v] w fun e w' => e = .returned (.int .i64 0) ∧ ∃ S', Ram w' b S' (R.write a v 1) ∧ Moves S S' w w' := by
  go_enter Try.func21, Try.ntmps21
  go_wp2_with fail
  go_loopw [28] (fun i wr => ∃ k : Nat, k ≤ 1 ∧ i = .int .u32 k ∧ ∃ S', Ram wr b S' (R.write a v k) ∧ Moves S S' w wr) (fun i _ => 1 - (intOf i).toNat)
  case atStart => exact ⟨0, by omega, rfl, S, H, Moves.refl S w⟩
  case round =>
    obtain ⟨k, hk, rfl, S', H', M'⟩ := hrel
    by_cases hlt : k < 1
    · have HW := Lib.hid (show R.write a v (k + 1) = (R.write a v k).wr (at32 a k) (v / 256 ^ k % 256) from rfl)
      have HN := Lib.hid (wr_no (R.write a v k) (at32 a k) (v / 256 ^ k % 256))
      have HY := Lib.hid (wr_yes (R.write a v k) (at32 a k) (v / 256 ^ k % 256))
      have hpl := RS.place_le (R.write a v k) (at32 a k)
      have hal := at32_lt a k
      have HB := Lib.hid (shr_byte v k)
      go_wp2_with fail
      refine (place_anyv H' (at32 a k) _ (by unfold at32; omega) (at32_lt _ _)).mono ?_
      rintro e w1 ⟨rfl, n2, rfl⟩
      have H2 := H'.drewN n2
      have M2 := M'.trans (Moves.drewN S' _ n2)
      obtain ⟨bp, bo, bw, bn, pg, I, hS⟩ := H2
      obtain ⟨-, -, c2, -, -, -, -, klt⟩ := I.facts
      have mo := I.mo
      have H2 : Ram _ b S' (R.write a v k) := ⟨bp, bo, bw, bn, pg, I, hS⟩
      clear I hS H' M'
      generalize (R.write a v k).place (at32 a k) = p at *
      by_cases hs : p < (R.write a v k).size
      · have hd : decide (p < (R.write a v k).size) = true := decide_eq_true hs
        rw [hd]
        clear hd
        have hx : ((p : Int) / 4096) = ((p / 4096 : Nat) : Int) := by omega
        cases ho : (R.write a v k).only (p / 4096)
        · have hl := MarkAt.look mo ho _ hx
          have HO := Lib.hid ho
          clear hx ho mo
          go_wp2_with fail
          refine (put_anyv H2 (at32 a k) (v / 256 ^ k % 256) _ _ (by unfold at32; omega) HB.out (at32_lt _ _) (Nat.mod_lt _ (by decide))).mono ?_
          rintro e w1 ⟨rfl, S3, H3, M3⟩
          rw [← HY.out hs HO.out, ← HW.out] at H3
          have M4 := M2.trans M3
          go_wp2_with fail
          go_roundw
          case rel => exact ⟨k + 1, by omega, by go_num, S3, H3, M4⟩
          case measure => (simp [intOf]) <;> omega
        · have hl := MarkAt.look mo ho _ hx
          have HO := Lib.hid ho
          clear hx ho mo
          have H3 : Ram (wr.drewN n2) b S' (R.write a v (k + 1)) := by rw [HW.out, HN.out fun h => by have := HO.out; rw [this] at h; cases h.2]; exact H2
          go_wp2_with fail
          go_roundw
          case rel => exact ⟨k + 1, by omega, by go_num, S', H3, M2⟩
          case measure => (simp [intOf]) <;> omega
      · have hd : decide (p < (R.write a v k).size) = false := decide_eq_false hs
        rw [hd]
        clear hd
        have H3 : Ram (wr.drewN n2) b S' (R.write a v (k + 1)) := by rw [HW.out, HN.out fun h => hs h.1]; exact H2
        go_wp2_with fail
        go_roundw
        case rel => exact ⟨k + 1, by omega, by go_num, S', H3, M2⟩
        case measure => (simp [intOf]) <;> omega
    · have hk2 : k = 1 := by omega
      have HK := Lib.hid hk2
      clear hk2
      go_wp2_with fail
      go_returns
      exact ⟨rfl, S', by rw [← HK.out]; exact H', M'⟩
set_option maxHeartbeats 2000000 in
theorem write_2 {w : World} {b : Nat} {S : Nat → Prop} {R : RS} (H : Ram w b S R) (a v : Nat) (ha : a < 4294967296) (hv : v < 4294967296) :
    Calls Try.prog 21 #[.pointer (some ⟨b, 0, .none⟩), .int .u32 a, .int .i64 2, .int .u32 v] w fun e w' => e = .returned (.int .i64 0) ∧ ∃ S', Ram w' b S' (R.write a v 2) ∧ Moves S S' w w' := by
  go_enter Try.func21, Try.ntmps21
  go_wp2_with fail
  go_loopw [28] (fun i wr => ∃ k : Nat, k ≤ 2 ∧ i = .int .u32 k ∧ ∃ S', Ram wr b S' (R.write a v k) ∧ Moves S S' w wr) (fun i _ => 2 - (intOf i).toNat)
  case atStart => exact ⟨0, by omega, rfl, S, H, Moves.refl S w⟩
  case round =>
    obtain ⟨k, hk, rfl, S', H', M'⟩ := hrel
    by_cases hlt : k < 2
    · have HW := Lib.hid (show R.write a v (k + 1) = (R.write a v k).wr (at32 a k) (v / 256 ^ k % 256) from rfl)
      have HN := Lib.hid (wr_no (R.write a v k) (at32 a k) (v / 256 ^ k % 256))
      have HY := Lib.hid (wr_yes (R.write a v k) (at32 a k) (v / 256 ^ k % 256))
      have hpl := RS.place_le (R.write a v k) (at32 a k)
      have hal := at32_lt a k
      have HB := Lib.hid (shr_byte v k)
      go_wp2_with fail
      refine (place_anyv H' (at32 a k) _ (by unfold at32; omega) (at32_lt _ _)).mono ?_
      rintro e w1 ⟨rfl, n2, rfl⟩
      have H2 := H'.drewN n2
      have M2 := M'.trans (Moves.drewN S' _ n2)
      obtain ⟨bp, bo, bw, bn, pg, I, hS⟩ := H2
      obtain ⟨-, -, c2, -, -, -, -, klt⟩ := I.facts
      have mo := I.mo
      have H2 : Ram _ b S' (R.write a v k) := ⟨bp, bo, bw, bn, pg, I, hS⟩
      clear I hS H' M'
      generalize (R.write a v k).place (at32 a k) = p at *
      by_cases hs : p < (R.write a v k).size
      · have hd : decide (p < (R.write a v k).size) = true := decide_eq_true hs
        rw [hd]
        clear hd
        have hx : ((p : Int) / 4096) = ((p / 4096 : Nat) : Int) := by omega
        cases ho : (R.write a v k).only (p / 4096)
        · have hl := MarkAt.look mo ho _ hx
          have HO := Lib.hid ho
          clear hx ho mo
          go_wp2_with fail
          refine (put_anyv H2 (at32 a k) (v / 256 ^ k % 256) _ _ (by unfold at32; omega) HB.out (at32_lt _ _) (Nat.mod_lt _ (by decide))).mono ?_
          rintro e w1 ⟨rfl, S3, H3, M3⟩
          rw [← HY.out hs HO.out, ← HW.out] at H3
          have M4 := M2.trans M3
          go_wp2_with fail
          go_roundw
          case rel => exact ⟨k + 1, by omega, by go_num, S3, H3, M4⟩
          case measure => (simp [intOf]) <;> omega
        · have hl := MarkAt.look mo ho _ hx
          have HO := Lib.hid ho
          clear hx ho mo
          have H3 : Ram (wr.drewN n2) b S' (R.write a v (k + 1)) := by rw [HW.out, HN.out fun h => by have := HO.out; rw [this] at h; cases h.2]; exact H2
          go_wp2_with fail
          go_roundw
          case rel => exact ⟨k + 1, by omega, by go_num, S', H3, M2⟩
          case measure => (simp [intOf]) <;> omega
      · have hd : decide (p < (R.write a v k).size) = false := decide_eq_false hs
        rw [hd]
        clear hd
        have H3 : Ram (wr.drewN n2) b S' (R.write a v (k + 1)) := by rw [HW.out, HN.out fun h => hs h.1]; exact H2
        go_wp2_with fail
        go_roundw
        case rel => exact ⟨k + 1, by omega, by go_num, S', H3, M2⟩
        case measure => (simp [intOf]) <;> omega
    · have hk2 : k = 2 := by omega
      have HK := Lib.hid hk2
      clear hk2
      go_wp2_with fail
      go_returns
      exact ⟨rfl, S', by rw [← HK.out]; exact H', M'⟩
set_option maxHeartbeats 2000000 in
theorem write_4 {w : World} {b : Nat} {S : Nat → Prop} {R : RS} (H : Ram w b S R) (a v : Nat) (ha : a < 4294967296) (hv : v < 4294967296) :
    Calls Try.prog 21 #[.pointer (some ⟨b, 0, .none⟩), .int .u32 a, .int .i64 4, .int .u32 v] w fun e w' => e = .returned (.int .i64 0) ∧ ∃ S', Ram w' b S' (R.write a v 4) ∧ Moves S S' w w' := by
  go_enter Try.func21, Try.ntmps21
  go_wp2_with fail
  go_loopw [28] (fun i wr => ∃ k : Nat, k ≤ 4 ∧ i = .int .u32 k ∧ ∃ S', Ram wr b S' (R.write a v k) ∧ Moves S S' w wr) (fun i _ => 4 - (intOf i).toNat)
  case atStart => exact ⟨0, by omega, rfl, S, H, Moves.refl S w⟩
  case round =>
    obtain ⟨k, hk, rfl, S', H', M'⟩ := hrel
    by_cases hlt : k < 4
    · have HW := Lib.hid (show R.write a v (k + 1) = (R.write a v k).wr (at32 a k) (v / 256 ^ k % 256) from rfl)
      have HN := Lib.hid (wr_no (R.write a v k) (at32 a k) (v / 256 ^ k % 256))
      have HY := Lib.hid (wr_yes (R.write a v k) (at32 a k) (v / 256 ^ k % 256))
      have hpl := RS.place_le (R.write a v k) (at32 a k)
      have hal := at32_lt a k
      have HB := Lib.hid (shr_byte v k)
      go_wp2_with fail
      refine (place_anyv H' (at32 a k) _ (by unfold at32; omega) (at32_lt _ _)).mono ?_
      rintro e w1 ⟨rfl, n2, rfl⟩
      have H2 := H'.drewN n2
      have M2 := M'.trans (Moves.drewN S' _ n2)
      obtain ⟨bp, bo, bw, bn, pg, I, hS⟩ := H2
      obtain ⟨-, -, c2, -, -, -, -, klt⟩ := I.facts
      have mo := I.mo
      have H2 : Ram _ b S' (R.write a v k) := ⟨bp, bo, bw, bn, pg, I, hS⟩
      clear I hS H' M'
      generalize (R.write a v k).place (at32 a k) = p at *
      by_cases hs : p < (R.write a v k).size
      · have hd : decide (p < (R.write a v k).size) = true := decide_eq_true hs
        rw [hd]
        clear hd
        have hx : ((p : Int) / 4096) = ((p / 4096 : Nat) : Int) := by omega
        cases ho : (R.write a v k).only (p / 4096)
        · have hl := MarkAt.look mo ho _ hx
          have HO := Lib.hid ho
          clear hx ho mo
          go_wp2_with fail
          refine (put_anyv H2 (at32 a k) (v / 256 ^ k % 256) _ _ (by unfold at32; omega) HB.out (at32_lt _ _) (Nat.mod_lt _ (by decide))).mono ?_
          rintro e w1 ⟨rfl, S3, H3, M3⟩
          rw [← HY.out hs HO.out, ← HW.out] at H3
          have M4 := M2.trans M3
          go_wp2_with fail
          go_roundw
          case rel => exact ⟨k + 1, by omega, by go_num, S3, H3, M4⟩
          case measure => (simp [intOf]) <;> omega
        · have hl := MarkAt.look mo ho _ hx
          have HO := Lib.hid ho
          clear hx ho mo
          have H3 : Ram (wr.drewN n2) b S' (R.write a v (k + 1)) := by rw [HW.out, HN.out fun h => by have := HO.out; rw [this] at h; cases h.2]; exact H2
          go_wp2_with fail
          go_roundw
          case rel => exact ⟨k + 1, by omega, by go_num, S', H3, M2⟩
          case measure => (simp [intOf]) <;> omega
      · have hd : decide (p < (R.write a v k).size) = false := decide_eq_false hs
        rw [hd]
        clear hd
        have H3 : Ram (wr.drewN n2) b S' (R.write a v (k + 1)) := by rw [HW.out, HN.out fun h => hs h.1]; exact H2
        go_wp2_with fail
        go_roundw
        case rel => exact ⟨k + 1, by omega, by go_num, S', H3, M2⟩
        case measure => (simp [intOf]) <;> omega
    · have hk2 : k = 4 := by omega
      have HK := Lib.hid hk2
      clear hk2
      go_wp2_with fail
      go_returns
      exact ⟨rfl, S', by rw [← HK.out]; exact H', M'⟩
theorem write_any {w : World} {b : Nat} {S : Nat → Prop} {R : RS} (H : Ram w b S R) (a v : Nat) (ha : a < 4294967296) (hv : v < 4294967296) (s : Nat) (hs : s = 1 ∨ s = 2 ∨ s = 4) :
    Calls Try.prog 21 #[.pointer (some ⟨b, 0, .none⟩), .int .u32 a, .int .i64 (s : Nat), .int .u32 v] w fun e w' => e = .returned (.int .i64 0) ∧ ∃ S', Ram w' b S' (R.write a v s) ∧ Moves S S' w w' := by
  rcases hs with rfl | rfl | rfl
  · exact write_1 H a v ha hv
  · exact write_2 H a v ha hv
  · exact write_4 H a v ha hv
set_option maxHeartbeats 1000000 in
theorem write_bad {w : World} {b : Nat} (a s v : Int) (h1 : s ≠ 1) (h2 : s ≠ 2) (h4 : s ≠ 4) :
    Calls Try.prog 21 #[.pointer (some ⟨b, 0, .none⟩), .int .u32 a, .int .i64 s, .int .u32 v] w fun e w' => e = .returned (.int .i64 2) ∧ w = w' := by
  have g1 : (s != 1) = true := by simpa using h1
  have g2 : (s != 2) = true := by simpa using h2
  have g4 : (s != 4) = true := by simpa using h4
  go_enter Try.func21, Try.ntmps21
  go_wp2_with fail
  go_returns
  exact ⟨rfl, rfl⟩
set_option maxHeartbeats 1000000 in
theorem write_nil {w : World} (a s v : Int) :
    Calls Try.prog 21 #[.pointer .none, .int .u32 a, .int .i64 s, .int .u32 v] w fun e w' => e = .returned (.int .i64 1) ∧ w = w' := by
  go_enter Try.func21, Try.ntmps21
  go_wp2_with fail
  go_returns
  exact ⟨rfl, rfl⟩
end Go.Proofs.Ytojmpdddfnkffaa

/- ram: New, Len, Rom. -/
namespace Go.Proofs.Ytojmpdddfnkffaa
open Go.RowKit Go.MapKept
set_option linter.unusedVariables false

def RS.new (n : Nat) : RS := ⟨n, false, fun _ => 0, fun _ => false, fun _ => false, fun _ => false⟩
theorem RS.new_ok {n : Nat} (h1 : 1 ≤ n) (h2 : n ≤ 256) : (RS.new n).ok := ⟨h1, h2, fun _ => by show (0 : Nat) < 256; decide⟩
def RS.rom (R : RS) (k : Nat) (x : Bool) : RS := { R with only := fun m => if m = k then x else R.only m }
theorem RS.rom_ok {R : RS} (h : R.ok) (k : Nat) (x : Bool) : (R.rom k x).ok := ⟨h.p1, h.p2, h.b⟩
def romGood (R : RS) (n : Int) : Bool := decide (0 ≤ n) && decide (n < R.pages)

theorem heap_at (w : World) (o : Obj) (k : Nat) (h : k = w.heap.size) : (w.alloc o).heap[k]? = some o := by rw [h]; exact heap_new w o

set_option maxHeartbeats 1000000 in
theorem new_any (w : World) (n : Nat) (h1 : 1 ≤ n) (h2 : n ≤ 256) :
    Calls Try.prog 23 #[.int .i64 n] w fun e w' => ∃ b S, e = .returned (.tuple #[.pointer (some ⟨b, 0, .none⟩), .int .i64 0]) ∧ Ram w' b S (RS.new n) ∧ (∀ k, S k → w.heap.size ≤ k) ∧ Below w.heap.size w w' := by
  have hm : (n : Int) % 4294967296 = n := by omega
  have hmm : ∀ (t : TypeId) (w : World), (Instr.makeMap t none).run Try.prog w = .ok (.map (some w.heap.size)) (w.alloc (.map #[] 0)) := fun t w => by simp [Instr.makeMap, Result.andThen]
  go_enter Try.func23, Try.ntmps23
  go_wp2_with fail
  go_ret2
  have es : (RS.new n).size = n * 4096 := rfl
  let M : Obj := .map #[] 0
  let C : Obj := .cells #[.int .u32 (RS.new n).size, .map (some w.heap.size), .map (some (w.heap.size + 1)), .map (some (w.heap.size + 2)), .map (some (w.heap.size + 3)), .bool false] 92
  refine ⟨w.heap.size + 4, Owned (w.heap.size + 4) w.heap.size (w.heap.size + 1) (w.heap.size + 2) (w.heap.size + 3) (fun _ => .none), rfl, ⟨w.heap.size, w.heap.size + 1, w.heap.size + 2, w.heap.size + 3, fun _ => .none, ?_, fun k => Iff.rfl⟩, ?_, by go_grown⟩
  · have z : ∀ (o : Obj) (w : World), (w.alloc o).heap.size = w.heap.size + 1 := fun o w => by simp
    have m : ∀ (W : World) (k : Nat), W.heap[k]? = some M → MapAt W k .u32 (fun _ => .none) := fun W k h => ⟨#[], 0, h, stamped_empty 0, by simp, by simp⟩
    have g0 := heap_alloc_lt (o' := C) (heap_alloc_lt (o' := M) (heap_alloc_lt (o' := M) (heap_alloc_lt (o' := M) (heap_at w M w.heap.size rfl))))
    have g1 := heap_alloc_lt (o' := C) (heap_alloc_lt (o' := M) (heap_alloc_lt (o' := M) (heap_at (w.alloc M) M (w.heap.size + 1) (by simp only [z]))))
    have g2 := heap_alloc_lt (o' := C) (heap_alloc_lt (o' := M) (heap_at ((w.alloc M).alloc M) M (w.heap.size + 2) (by simp only [z])))
    have g3 := heap_alloc_lt (o' := C) (heap_at (((w.alloc M).alloc M).alloc M) M (w.heap.size + 3) (by simp only [z]))
    have g4 := heap_at ((((w.alloc M).alloc M).alloc M).alloc M) C (w.heap.size + 4) (by simp only [z])
    refine { obj := ?_, mp := m _ _ g0, mo := ⟨_, m _ _ g1, fun k => .inl ⟨rfl, rfl⟩⟩, mw := m _ _ g2, mn := m _ _ g3, page := fun k q h => (by cases h), zero := fun k h i hi => rfl, inj := fun k k' q h => (by cases h), inside := fun k q h => (by cases h), d1 := by omega, d2 := by omega, d3 := by omega, d4 := by omega, d5 := by omega, d6 := by omega, ok := RS.new_ok h1 h2 }
    exact g4
  · rintro k (rfl | rfl | rfl | rfl | rfl | ⟨j, hj⟩)
    · omega
    · omega
    · omega
    · omega
    · omega
    · cases hj
set_option maxHeartbeats 1000000 in
theorem new_bad (w : World) (n : Int) (h : n < 1 ∨ 256 < n) :
    Calls Try.prog 23 #[.int .i64 n] w fun e w' => e = .returned (.tuple #[.pointer .none, .int .i64 50]) ∧ w = w' := by
  rcases h with h | h
  all_goals
    go_enter Try.func23, Try.ntmps23
    go_wp2_with fail
    go_ret2
    exact ⟨rfl, rfl⟩
def RS.romAt (R : RS) (n : Int) (x : Bool) : RS := if romGood R n then R.rom n.toNat x else R
def romErr (R : RS) (n : Int) : Int := if romGood R n then 0 else 1
end Go.Proofs.Ytojmpdddfnkffaa

/- ram: Dump. -/
namespace Go.Proofs.Ytojmpdddfnkffaa
open Go.RowKit Go.MapKept
set_option linter.unusedVariables false

theorem Ram.set {w : World} {b : Nat} {S : Nat → Prop} {R : RS} (H : Ram w b S R) {g : Nat} (hg : ¬ S g) (k : Nat) (v : Value) : Ram (w.setCell ⟨g, k, .none⟩ v) b S R :=
  H.keeps ((Keeps.refl (· = g) w).setOne k v) fun j hj e => hg (by rw [← e]; exact hj)
theorem below_dn {B : Nat} {w a : World} (h : Below B w a) (n : Nat) : Below B w (a.drewN n) := ⟨h.os, h.tape, h.output, h.size, h.block⟩
/-- n cells of a value. -/
def fresh (n : Nat) (z : Value) : Array Value := Array.replicate n z
theorem made_fresh (z : Value) (n : Nat) (hz : z.cells = #[z]) : madeCells z.cells (n * 1) = fresh n z := by
  rw [hz]
  apply Array.ext_getElem?
  intro j
  unfold madeCells fresh
  simp [Array.getElem?_replicate, Array.getElem?_map, Array.getElem?_range]
  by_cases h : j < n <;> simp [h, Nat.mod_one]
theorem make_run (w : World) (T E : TypeId) (z : Value) (bytes n : Nat) (hT : Try.prog.underlying T = some (.slice E)) (hi : (Try.prog.info? E).map (fun i => (i.zero, i.size, i.bytes)) = some (some z, 1, bytes)) (hz : z.cells = #[z])
    (hb : bytes * n ≤ 281474976710656) (hn : n ≤ 9223372036854775807) (x y : Int) (hx : x = (n : Int)) (hy : y = (n : Int)) :
    (Instr.makeSlice T (.int .i64 x) (.int .i64 y)).run Try.prog w = .ok (.slice (some ⟨w.heap.size, 0, .none⟩) n n) (w.alloc (.cells (fresh n z) E)) := by
  subst hx hy
  cases h : Try.prog.info? E with
  | none => rw [h] at hi; cases hi
  | some i =>
    rw [h] at hi
    simp only [Option.map_some, Option.some.injEq, Prod.mk.injEq] at hi
    obtain ⟨h1, h2, h3⟩ := hi
    have hb' : (i.bytes : Int) * (n : Int) ≤ 281474976710656 := by
      have : ((bytes * n : Nat) : Int) ≤ 281474976710656 := by omega
      rw [h3]; rwa [Int.natCast_mul] at this
    have := run_make (P := Try.prog) w T E i z hT h h1 .i64 .i64 (n : Int) (n : Int) (by omega) (Int.le_refl _) hb' (by omega)
    rw [this, h2, Int.toNat_natCast, made_fresh z n hz]
theorem make_bytes (w : World) (n : Nat) (h : n ≤ 281474976710656) (x y : Int) (hx : x = (n : Int)) (hy : y = (n : Int)) :
    (Instr.makeSlice 30 (.int .i64 x) (.int .i64 y)).run Try.prog w = .ok (.slice (some ⟨w.heap.size, 0, .none⟩) n n) (w.alloc (.cells (fresh n (.int .u8 0)) 5)) :=
  make_run w _ _ _ 1 n Try.underlying30 (by kernel_rfl) rfl (by omega) (by omega) x y hx hy

/-- The first k of n bytes from a on, and noughts behind them. -/
def outCells (R : RS) (a n k : Nat) : Array Value := Array.ofFn (n := n) fun i => .int .u8 ((if i.val < k then R.get (at32 a i.val) else 0 : Nat) : Int)
theorem out_zero (R : RS) (a n : Nat) : fresh n (.int .u8 0) = outCells R a n 0 := by
  apply Array.ext_getElem?
  intro j
  unfold outCells fresh
  rw [Array.getElem?_replicate, Array.getElem?_ofFn]
  by_cases h : j < n <;> simp [h]
theorem out_full (R : RS) (a n : Nat) : outCells R a n n = Array.ofFn (n := n) fun i => .int .u8 (R.get (at32 a i.val) : Nat) := by
  unfold outCells
  congr 1
  funext i
  rw [if_pos i.isLt]
theorem out_set (R : RS) (a n k : Nat) (hk : k < n) : (outCells R a n k).setIfInBounds k (.int .u8 (R.get (at32 a k) : Nat)) = outCells R a n (k + 1) := by
  apply Array.ext_getElem?
  intro j
  unfold outCells
  rw [Array.getElem?_setIfInBounds, Array.getElem?_ofFn, Array.getElem?_ofFn]
  by_cases hj : j < n
  · rw [dif_pos hj, dif_pos hj]
    by_cases e : k = j
    · subst e
      rw [if_pos rfl, if_pos (by simpa using hj), if_pos (show k < k + 1 by omega)]
    · rw [if_neg e]
      congr 2
      by_cases h : j < k
      · rw [if_pos h, if_pos (show j < k + 1 by omega)]
      · rw [if_neg h, if_neg (show ¬ j < k + 1 by omega)]
  · rw [dif_neg hj, dif_neg hj]
    by_cases e : k = j
    · omega
    · rw [if_neg e]

theorem slice_page (q p : Nat) (W : World) : (Instr.sliceAt 142 (.pointer (some ⟨q, 0, .none⟩)) (some (.int .u32 ((p : Int).tmod 4096))) none none).run Try.prog W = .ok (.slice (some ⟨q, p % 4096, .none⟩) (4096 - p % 4096) (4096 - p % 4096)) W := by
  have e : (p : Int).tmod 4096 = ((p % 4096 : Nat) : Int) := by
    rw [Int.tmod_eq_emod_of_nonneg (by omega)]; omega
  have h : p % 4096 < 4096 := Nat.mod_lt _ (by decide)
  rw [e]
  generalize p % 4096 = x at *
  have hn : ¬ 4096 = x := by omega
  have hle : x ≤ 4096 := by omega
  have ha : (⟨q, 0, .none⟩ : Addr).add x = ⟨q, x, .none⟩ := by rw [Go.WideShapes.add_plain]; simp
  simp [Instr.sliceAt, run_underlying Try.underlying142, Result.andThen, Instr.sliceBounds, Instr.sliceBound, asIntOf, Instr.sureAddr, hn, hle, ha]
def outL (R : RS) (a n k : Nat) : List Value := (List.range n).map fun i => .int .u8 ((if i < k then R.get (at32 a i) else 0 : Nat) : Int)
theorem outL_len (R : RS) (a n k : Nat) : (outL R a n k).length = n := by unfold outL; simp
theorem outCells_eq (R : RS) (a n k : Nat) : outCells R a n k = (outL R a n k).toArray := by
  apply Array.ext_getElem?
  intro j
  unfold outCells outL
  rw [Array.getElem?_ofFn]
  by_cases h : j < n
  · rw [dif_pos h]; simp [h]
  · rw [dif_neg h]; simp [h]
def chunk (R : RS) (a k m : Nat) : List Value := (List.range m).map fun j => .int .u8 (R.get (at32 a (k + j)) : Nat)
theorem chunk_len (R : RS) (a k m : Nat) : (chunk R a k m).length = m := by unfold chunk; simp
theorem chunk_one (R : RS) (a k m : Nat) : ∀ v ∈ chunk R a k m, v.oneCell' = true := by
  intro v hv
  unfold chunk at hv
  obtain ⟨j, _, rfl⟩ := List.mem_map.1 hv
  rfl
theorem chunk_splice (R : RS) (a n k m : Nat) (h : k + m ≤ n) : splice (outL R a n k) k (chunk R a k m) = outL R a n (k + m) := by
  unfold splice
  rw [chunk_len]
  apply List.ext_getElem?
  intro j
  have hl := outL_len R a n k
  by_cases h1 : j < k
  · rw [List.getElem?_append_left (by rw [List.length_take]; omega), List.getElem?_take_of_lt h1]
    unfold outL
    have : j < n := by omega
    have h3 : j < k + m := by omega
    simp [this, h1, h3]
  · by_cases h2 : j < k + m
    · rw [List.getElem?_append_right (by rw [List.length_take]; omega), List.getElem?_append_left (by rw [chunk_len, List.length_take]; omega), List.length_take, Nat.min_eq_left (by omega)]
      unfold outL chunk
      have h4 : j < n := by omega
      have h5 : j - k < m := by omega
      have h6 : k + (j - k) = j := by omega
      simp [h4, h5, h2, h6]
    · rw [List.getElem?_append_right (by rw [List.length_take]; omega), List.getElem?_append_right (by rw [chunk_len, List.length_take]; omega), List.length_take, Nat.min_eq_left (by omega), chunk_len, List.getElem?_drop]
      have h6 : k + m + (j - k - m) = j := by omega
      rw [h6]
      unfold outL
      by_cases h4 : j < n
      · simp [h4, h1, h2]
      · simp [h4]
theorem chunk_get (R : RS) (a k p m j : Nat) (hp : R.place (at32 a k) = p) (hc : R.closed = false) (hs : p < R.size) (hm : m ≤ 4096 - p % 4096) (ok : R.ok) (hj : j < m) : R.get (at32 a (k + j)) = R.byte (p / 4096 * 4096 + (p % 4096 + j)) := by
  have h2 := RS.size_le ok
  have pl : ∀ x, R.place x = x := fun x => by unfold RS.place; rw [hc]; rfl
  rw [pl] at hp
  have e : at32 a (k + j) = p + j := by unfold at32 at *; omega
  have h3 : p + j < R.size := by unfold RS.size at *; omega
  unfold RS.get
  rw [pl, e, if_pos h3]
  congr 1; omega
theorem chunk_cells (R : RS) (a k m q p : Nat) (w : World) (T : TypeId) (h : w.heap[q]? = some (.cells (pageCells R.byte (p / 4096)) T)) (hg : ∀ j, j < m → R.get (at32 a (k + j)) = R.byte (p / 4096 * 4096 + (p % 4096 + j))) (hm : m ≤ 4096 - p % 4096) :
    ∀ (j : Nat) v, (chunk R a k m)[j]? = some v → w.cell? ((⟨q, p % 4096, .none⟩ : Addr).add j) = some v := by
  intro j v hv
  have hj : j < m := by
    have := (List.getElem?_eq_some_iff.1 hv).1
    rwa [chunk_len] at this
  rw [Go.WideShapes.add_plain, page_cell h (by omega), ← hg j hj]
  unfold chunk at hv
  simp [hj] at hv
  rw [hv]

end Go.Proofs.Ytojmpdddfnkffaa

/- ram: the gate, watching, and calls on none. -/
namespace Go.Proofs.Ytojmpdddfnkffaa
open Go.RowKit Go.MapKept
set_option linter.unusedVariables false

def RS.gate (R : RS) (x : Bool) : RS := { R with closed := !x }
theorem RS.gate_ok {R : RS} (h : R.ok) (x : Bool) : (R.gate x).ok := ⟨h.p1, h.p2, h.b⟩
def RS.watch (R : RS) (a : Nat) : RS := if R.place a < R.size then { R with watched := fun g => if g = R.place a / 64 then true else R.watched g } else R
theorem RS.watch_ok {R : RS} (h : R.ok) (a : Nat) : (R.watch a).ok := by
  unfold RS.watch
  split
  · exact ⟨h.p1, h.p2, h.b⟩
  · exact h
def RS.watches (R : RS) (a : Nat) : Bool := decide (R.place a < R.size) && R.watched (R.place a / 64)
def RS.told (R : RS) : RS := { R with noted := fun _ => false }
theorem RS.told_ok {R : RS} (h : R.ok) : R.told.ok := ⟨h.p1, h.p2, h.b⟩
section
variable {w w' : World} {b bp bo bw bn : Nat} {pg : Nat → Option Nat} {R : RS}
theorem RamIn.turnClosed (H : RamIn w b bp bo bw bn pg R) (x : Bool) : RamIn (w.setCell ⟨b, 5, .none⟩ (.bool !x)) b bp bo bw bn pg (R.gate x) := by
  obtain ⟨f, mo, hf⟩ := H.mo
  have hne : ∀ k, k ≠ b → (w.setCell ⟨b, 5, .none⟩ (.bool !x)).heap[k]? = w.heap[k]? := fun k h => heap_set_other _ h
  exact { H with
    obj := by rw [heap_set_map, H.obj]; rfl
    mp := H.mp.of_heap (hne _ H.b_p.symm)
    mo := ⟨f, mo.of_heap (hne _ H.b_o.symm), hf⟩
    mw := MapAt.of_heap H.mw (hne _ H.b_w.symm)
    mn := MapAt.of_heap H.mn (hne _ H.b_n.symm)
    page := fun k q hq => by rw [hne q (H.q_b hq)]; exact H.page k q hq
    ok := RS.gate_ok H.ok x }
end
set_option maxHeartbeats 1000000 in
theorem gate_any {w : World} {b : Nat} {S : Nat → Prop} {R : RS} (H : Ram w b S R) (x : Bool) :
    Calls Try.prog 38 #[.pointer (some ⟨b, 0, .none⟩), .bool x] w fun e w' => e = .returned (.tuple #[]) ∧ Ram w' b S (R.gate x) ∧ Keeps S w w' := by
  obtain ⟨bp, bo, bw, bn, pg, I, hS⟩ := H
  obtain ⟨-, -, -, -, -, k5, kf, klt⟩ := I.facts
  have HI := Lib.hid I
  clear I
  go_enter Try.func38, Try.ntmps38
  go_wp2_with fail
  go_end0
  exact ⟨rfl, ⟨bp, bo, bw, bn, pg, HI.out.turnClosed x, hS⟩, (Keeps.refl S w).setCell (.inl ((hS b).2 (.inl rfl))) _⟩
theorem gate_nil (w : World) (x : Bool) : Calls Try.prog 38 #[.pointer none, .bool x] w fun e w' => e = .returned (.tuple #[]) ∧ w = w' := by
  go_enter Try.func38, Try.ntmps38
  go_wp2_with fail
  go_end0
  exact ⟨rfl, rfl⟩
end Go.Proofs.Ytojmpdddfnkffaa

/- the document's memory: what it is in memory; Place, Byte. -/
namespace Go.Proofs.Ytojmpdddfnkffaa
open Go.RowKit Go.MapKept
set_option linter.unusedVariables false

def byteCells (n : Nat) (f : Nat → Nat) : Array Value := Array.ofFn (n := n) fun i => .int .u8 (f i.val : Nat)
def boolCells (n : Nat) (f : Nat → Bool) : Array Value := Array.ofFn (n := n) fun i => .bool (f i.val)
theorem byteCells_at (n : Nat) (f : Nat → Nat) (i : Nat) (h : i < n) : (byteCells n f)[i]? = some (.int .u8 (f i : Nat)) := by unfold byteCells; rw [Array.getElem?_ofFn, dif_pos h]
theorem boolCells_at (n : Nat) (f : Nat → Bool) (i : Nat) (h : i < n) : (boolCells n f)[i]? = some (.bool (f i)) := by unfold boolCells; rw [Array.getElem?_ofFn, dif_pos h]
theorem byteCells_set (n : Nat) (f : Nat → Nat) (i v : Nat) (h : i < n) : (byteCells n f).setIfInBounds i (.int .u8 (v : Nat)) = byteCells n (fun k => if k = i then v else f k) := by
  apply Array.ext_getElem?
  intro j
  unfold byteCells
  rw [Array.getElem?_setIfInBounds, Array.getElem?_ofFn, Array.getElem?_ofFn]
  by_cases hj : j < n
  · rw [dif_pos hj, dif_pos hj]
    by_cases e : i = j
    · subst e; rw [if_pos rfl, if_pos (by simpa using h)]; simp
    · rw [if_neg e]; show _ = some (Value.int .u8 ((if j = i then v else f j : Nat) : Int)); rw [if_neg (fun x => e x.symm)]
  · rw [dif_neg hj, dif_neg hj]
    by_cases e : i = j
    · omega
    · rw [if_neg e]
theorem boolCells_set (n : Nat) (f : Nat → Bool) (i : Nat) (v : Bool) (h : i < n) : (boolCells n f).setIfInBounds i (.bool v) = boolCells n (fun k => if k = i then v else f k) := by
  apply Array.ext_getElem?
  intro j
  unfold boolCells
  rw [Array.getElem?_setIfInBounds, Array.getElem?_ofFn, Array.getElem?_ofFn]
  by_cases hj : j < n
  · rw [dif_pos hj, dif_pos hj]
    by_cases e : i = j
    · subst e; rw [if_pos rfl, if_pos (by simpa using h)]; simp
    · rw [if_neg e]; show _ = some (Value.bool (if j = i then v else f j)); rw [if_neg (fun x => e x.symm)]
  · rw [dif_neg hj, dif_neg hj]
    by_cases e : i = j
    · omega
    · rw [if_neg e]
theorem byteCells_zero (n : Nat) : fresh n (.int .u8 0) = byteCells n (fun _ => 0) := by
  apply Array.ext_getElem?
  intro j
  unfold byteCells fresh
  rw [Array.getElem?_replicate, Array.getElem?_ofFn]
  by_cases h : j < n <;> simp [h]
theorem boolCells_no (n : Nat) : fresh n (.bool false) = boolCells n (fun _ => false) := by
  apply Array.ext_getElem?
  intro j
  unfold boolCells fresh
  rw [Array.getElem?_replicate, Array.getElem?_ofFn]
  by_cases h : j < n <;> simp [h]

/-- The document's memory of R: its object in block b, its rows in g0, g1, g2, g3. -/
structure RefIn (w : World) (b g0 g1 g2 g3 : Nat) (R : RS) : Prop where
  obj : w.heap[b]? = some (.cells #[.slice (some ⟨g0, 0, none⟩) R.size R.size, .slice (some ⟨g1, 0, none⟩) R.pages R.pages, .slice (some ⟨g2, 0, none⟩) (R.pages * 64) (R.pages * 64), .slice (some ⟨g3, 0, none⟩) (R.pages * 64) (R.pages * 64), .bool R.closed] 97)
  r0 : w.heap[g0]? = some (.cells (byteCells R.size R.byte) 5)
  r1 : w.heap[g1]? = some (.cells (boolCells R.pages R.only) 4)
  r2 : w.heap[g2]? = some (.cells (boolCells (R.pages * 64) R.watched) 4)
  r3 : w.heap[g3]? = some (.cells (boolCells (R.pages * 64) (fun i => R.noted (i * 64))) 4)
  d1 : g1 ≠ g2
  d2 : g1 ≠ g3
  d3 : g2 ≠ g3
  ok : R.ok
def RefOwned (b g0 g1 g2 g3 k : Nat) : Prop := k = b ∨ k = g0 ∨ k = g1 ∨ k = g2 ∨ k = g3
def Ref (w : World) (b : Nat) (S : Nat → Prop) (R : RS) : Prop := ∃ g0 g1 g2 g3, RefIn w b g0 g1 g2 g3 R ∧ ∀ k, S k ↔ RefOwned b g0 g1 g2 g3 k

section
variable {w w' : World} {b g0 g1 g2 g3 : Nat} {R : RS}
theorem RefIn.e0 (H : RefIn w b g0 g1 g2 g3 R) : b ≠ g0 := by
  rintro rfl; have h := H.r0; rw [H.obj] at h; simp at h
theorem RefIn.e1 (H : RefIn w b g0 g1 g2 g3 R) : b ≠ g1 := by
  rintro rfl; have h := H.r1; rw [H.obj] at h; simp at h
theorem RefIn.e2 (H : RefIn w b g0 g1 g2 g3 R) : b ≠ g2 := by
  rintro rfl; have h := H.r2; rw [H.obj] at h; simp at h
theorem RefIn.e3 (H : RefIn w b g0 g1 g2 g3 R) : b ≠ g3 := by
  rintro rfl; have h := H.r3; rw [H.obj] at h; simp at h
theorem RefIn.f1 (H : RefIn w b g0 g1 g2 g3 R) : g0 ≠ g1 := by
  rintro rfl; have h := H.r1; rw [H.r0] at h; simp at h
theorem RefIn.f2 (H : RefIn w b g0 g1 g2 g3 R) : g0 ≠ g2 := by
  rintro rfl; have h := H.r2; rw [H.r0] at h; simp at h
theorem RefIn.f3 (H : RefIn w b g0 g1 g2 g3 R) : g0 ≠ g3 := by
  rintro rfl; have h := H.r3; rw [H.r0] at h; simp at h
theorem RefOwned.lt (H : RefIn w b g0 g1 g2 g3 R) {k : Nat} (h : RefOwned b g0 g1 g2 g3 k) : k < w.heap.size := by
  rcases h with rfl | rfl | rfl | rfl | rfl
  · exact heap_lt H.obj
  · exact heap_lt H.r0
  · exact heap_lt H.r1
  · exact heap_lt H.r2
  · exact heap_lt H.r3
theorem RefIn.of_heap (H : RefIn w b g0 g1 g2 g3 R) (h : ∀ k, RefOwned b g0 g1 g2 g3 k → w'.heap[k]? = w.heap[k]?) : RefIn w' b g0 g1 g2 g3 R :=
  { H with
    obj := by rw [h b (.inl rfl)]; exact H.obj
    r0 := by rw [h g0 (.inr (.inl rfl))]; exact H.r0
    r1 := by rw [h g1 (.inr (.inr (.inl rfl)))]; exact H.r1
    r2 := by rw [h g2 (.inr (.inr (.inr (.inl rfl))))]; exact H.r2
    r3 := by rw [h g3 (.inr (.inr (.inr (.inr rfl))))]; exact H.r3 }
theorem RefIn.drewN (H : RefIn w b g0 g1 g2 g3 R) (n : Nat) : RefIn (w.drewN n) b g0 g1 g2 g3 R := H.of_heap fun _ _ => rfl
theorem RefIn.facts (H : RefIn w b g0 g1 g2 g3 R) :
    w.cell? ⟨b, 0, none⟩ = some (.slice (some ⟨g0, 0, none⟩) R.size R.size) ∧ w.cell? ⟨b, 1, none⟩ = some (.slice (some ⟨g1, 0, none⟩) R.pages R.pages) ∧ w.cell? ⟨b, 2, none⟩ = some (.slice (some ⟨g2, 0, none⟩) (R.pages * 64) (R.pages * 64)) ∧
    w.cell? ⟨b, 3, none⟩ = some (.slice (some ⟨g3, 0, none⟩) (R.pages * 64) (R.pages * 64)) ∧ w.cell? ⟨b, 4, none⟩ = some (.bool R.closed) := by
  have h := H.obj
  refine ⟨?_, ?_, ?_, ?_, ?_⟩ <;> (rw [cell_at h]; rfl)
end
section
variable {w w' : World} {b : Nat} {S : Nat → Prop} {R : RS}
theorem Ref.lt (H : Ref w b S R) {k : Nat} (h : S k) : k < w.heap.size := by
  obtain ⟨g0, g1, g2, g3, I, hS⟩ := H
  exact RefOwned.lt I ((hS k).1 h)
theorem Ref.own (H : Ref w b S R) : S b := by
  obtain ⟨g0, g1, g2, g3, I, hS⟩ := H
  exact (hS b).2 (.inl rfl)
theorem Ref.isok (H : Ref w b S R) : R.ok := by
  obtain ⟨g0, g1, g2, g3, I, hS⟩ := H
  exact I.ok
theorem Ref.keeps {T : Nat → Prop} (H : Ref w b S R) (hk : Keeps T w w') (hn : ∀ k, S k → ¬ T k) : Ref w' b S R := by
  obtain ⟨g0, g1, g2, g3, I, hS⟩ := H
  exact ⟨g0, g1, g2, g3, I.of_heap fun k hk' => hk.block k (hk'.lt I) (hn k ((hS k).2 hk')), hS⟩
theorem Ref.below (H : Ref w b S R) (hb : Below w.heap.size w w') : Ref w' b S R := H.keeps (Keeps.ofBelow (S := fun _ => False) hb) fun _ _ h => h
theorem Ref.drewN (H : Ref w b S R) (n : Nat) : Ref (w.drewN n) b S R := H.keeps ((Keeps.refl (fun _ => False) _).drewN n) fun _ _ h => h
theorem Ref.alloc (H : Ref w b S R) (o : Obj) : Ref (w.alloc o) b S R := H.keeps ((Keeps.refl (fun _ => False) _).alloc o) fun _ _ h => h
end

theorem place_bit (a : Nat) (ha : a < 4294967296) : a &&& 4293918719 = if a / 1048576 % 2 = 1 then a - 1048576 else a := by
  have e : a &&& 4293918719 = 2 ^ 21 * (a / 2 ^ 21) + a % 2 ^ 20 := by
    refine Nat.eq_of_testBit_eq fun j => ?_
    rw [Nat.testBit_and, Nat.testBit_two_pow_mul_add _ (Nat.lt_of_lt_of_le (Nat.mod_lt _ (by decide)) (by decide)), Nat.testBit_mod_two_pow, Nat.testBit_div_two_pow]
    by_cases hj : j < 32
    · have h : ∀ j : Fin 32, (4293918719 : Nat).testBit j.val = !decide (j.val = 20) := by decide +kernel
      rw [h ⟨j, hj⟩]
      by_cases h1 : j < 21
      · rw [if_pos h1]
        by_cases h2 : j = 20
        · subst h2; simp
        · rw [decide_eq_false h2, decide_eq_true (show j < 20 by omega)]; simp
      · rw [if_neg h1, decide_eq_false (show ¬ j = 20 by omega), show j - 21 + 21 = j by omega]; simp
    · have hz : a.testBit j = false := Nat.testBit_lt_two_pow (Nat.lt_of_lt_of_le ha (Nat.pow_le_pow_right (n := 2) (by decide) (by omega) : 2 ^ 32 ≤ 2 ^ j))
      rw [hz, if_neg (by omega), show j - 21 + 21 = j by omega, hz]; simp
  rw [e]
  split <;> omega

section
variable {w w' : World} {b g0 g1 g2 g3 : Nat} {R : RS}
theorem RefIn.set0 (H : RefIn w b g0 g1 g2 g3 R) (n v : Nat) (hn : n < R.size) (hv : v < 256) : RefIn (w.setCell ⟨g0, n, none⟩ (.int .u8 v)) b g0 g1 g2 g3 { R with byte := fun i => if i = n then v else R.byte i } :=
  { H with
    obj := by rw [heap_set_ne _ _ _ _ _ H.e0]; exact H.obj
    r0 := by
      rw [heap_set_map, H.r0]
      show some (Obj.cells _ _ _) = _
      rw [byteCells_set _ _ _ _ hn]; rfl
    r1 := by rw [heap_set_ne _ _ _ _ _ H.f1.symm]; exact H.r1
    r2 := by rw [heap_set_ne _ _ _ _ _ H.f2.symm]; exact H.r2
    r3 := by rw [heap_set_ne _ _ _ _ _ H.f3.symm]; exact H.r3
    ok := ⟨H.ok.p1, H.ok.p2, fun i => by
      show (if i = n then v else R.byte i) < 256
      split
      · exact hv
      · exact H.ok.b i⟩ }
theorem RefIn.set1 (H : RefIn w b g0 g1 g2 g3 R) (n : Nat) (v : Bool) (hn : n < R.pages) : RefIn (w.setCell ⟨g1, n, none⟩ (.bool v)) b g0 g1 g2 g3 { R with only := fun i => if i = n then v else R.only i } :=
  { H with
    obj := by rw [heap_set_ne _ _ _ _ _ H.e1]; exact H.obj
    r0 := by rw [heap_set_ne _ _ _ _ _ H.f1]; exact H.r0
    r1 := by
      rw [heap_set_map, H.r1]
      show some (Obj.cells _ _ _) = _
      rw [boolCells_set _ _ _ _ hn]
    r2 := by rw [heap_set_ne _ _ _ _ _ H.d1.symm]; exact H.r2
    r3 := by rw [heap_set_ne _ _ _ _ _ H.d2.symm]; exact H.r3
    ok := ⟨H.ok.p1, H.ok.p2, H.ok.b⟩ }
theorem RefIn.set2 (H : RefIn w b g0 g1 g2 g3 R) (n : Nat) (v : Bool) (hn : n < R.pages * 64) : RefIn (w.setCell ⟨g2, n, none⟩ (.bool v)) b g0 g1 g2 g3 { R with watched := fun i => if i = n then v else R.watched i } :=
  { H with
    obj := by rw [heap_set_ne _ _ _ _ _ H.e2]; exact H.obj
    r0 := by rw [heap_set_ne _ _ _ _ _ H.f2]; exact H.r0
    r1 := by rw [heap_set_ne _ _ _ _ _ H.d1]; exact H.r1
    r2 := by
      rw [heap_set_map, H.r2]
      show some (Obj.cells _ _ _) = _
      rw [boolCells_set _ _ _ _ hn]
    r3 := by rw [heap_set_ne _ _ _ _ _ H.d3.symm]; exact H.r3
    ok := ⟨H.ok.p1, H.ok.p2, H.ok.b⟩ }
theorem RefIn.set3 (H : RefIn w b g0 g1 g2 g3 R) (n : Nat) (v : Bool) (hn : n < R.pages * 64) : RefIn (w.setCell ⟨g3, n, none⟩ (.bool v)) b g0 g1 g2 g3 { R with noted := fun i => if i = n * 64 then v else R.noted i } :=
  { H with
    obj := by rw [heap_set_ne _ _ _ _ _ H.e3]; exact H.obj
    r0 := by rw [heap_set_ne _ _ _ _ _ H.f3]; exact H.r0
    r1 := by rw [heap_set_ne _ _ _ _ _ H.d2]; exact H.r1
    r2 := by rw [heap_set_ne _ _ _ _ _ H.d3]; exact H.r2
    r3 := by
      rw [heap_set_map, H.r3]
      show some (Obj.cells _ _ _) = _
      rw [boolCells_set _ _ _ _ hn]
      congr 2
      unfold boolCells
      congr 1
      funext i
      show Value.bool (if i.val = n then v else R.noted (i.val * 64)) = Value.bool (if i.val * 64 = n * 64 then v else R.noted (i.val * 64))
      by_cases e : i.val = n
      · rw [if_pos e, if_pos (by rw [e])]
      · rw [if_neg e, if_neg (by omega)]
    ok := ⟨H.ok.p1, H.ok.p2, H.ok.b⟩ }
end

/-- What the document's Put lays. -/
def RS.rput (R : RS) (a v : Nat) (all : Bool) : RS := if all then R.put a v else R.wr a v
end Go.Proofs.Ytojmpdddfnkffaa

/- the document's memory: Read, Write, Rom, New. -/
namespace Go.Proofs.Ytojmpdddfnkffaa
open Go.RowKit Go.MapKept
set_option linter.unusedVariables false

theorem add_shift (v b k : Nat) (hv : v < 256 ^ k) (hb : b < 256) (hk : k < 4) : ((b : Int) * 2 ^ (8 * k) % 4294967296) = ((b * 256 ^ k : Nat) : Int) ∧ v + b * 256 ^ k < 4294967296 := by
  have hp : (256 : Nat) ^ k = 2 ^ (8 * k) := by rw [Nat.pow_mul]
  have hle : b * 256 ^ k ≤ 255 * 256 ^ k := Nat.mul_le_mul_right _ (by omega)
  have h3 : 256 ^ k ≤ 256 ^ 3 := Nat.pow_le_pow_right (by decide) (by omega)
  refine ⟨?_, by omega⟩
  rw [hp]
  rw [hp] at hle h3
  rw [Int.emod_eq_of_lt]
  · simp
  · exact Int.mul_nonneg (by omega) (Int.pow_nonneg (by decide))
  · have : ((b : Int) * 2 ^ (8 * k)) = ((b * 2 ^ (8 * k) : Nat) : Int) := by simp
    rw [this]; omega

theorem shr_byte2 (v k : Nat) : ((v : Int) / 2 ^ (8 * k)).tmod 256 % 256 = ((v / 256 ^ k % 256 : Nat) : Int) := by
  rw [Int.tmod_eq_emod_of_nonneg (Int.ediv_nonneg (by omega) (Int.pow_nonneg (by decide))), Int.emod_emod_of_dvd _ (by decide), shr_byte]
end Go.Proofs.Ytojmpdddfnkffaa

/- the document's memory: New. -/
namespace Go.Proofs.Ytojmpdddfnkffaa
open Go.RowKit Go.MapKept
set_option linter.unusedVariables false

theorem make_bools (w : World) (n : Nat) (h : n ≤ 281474976710656) (x y : Int) (hx : x = (n : Int)) (hy : y = (n : Int)) :
    (Instr.makeSlice 95 (.int .i64 x) (.int .i64 y)).run Try.prog w = .ok (.slice (some ⟨w.heap.size, 0, .none⟩) n n) (w.alloc (.cells (fresh n (.bool false)) 4)) :=
  make_run w _ _ _ 1 n Try.underlying95 (by kernel_rfl) rfl (by omega) (by omega) x y hx hy
theorem alloc_heap (w : World) (o : Obj) : (w.alloc o).heap = w.heap.push o := rfl
theorem rnew_close {w w' : World} {n b g0 g1 g2 g3 : Nat} (h1 : 1 ≤ n) (h2 : n ≤ 256)
    (o : w'.heap[b]? = some (.cells #[.slice (some ⟨g0, 0, none⟩) (n * 4096) (n * 4096), .slice (some ⟨g1, 0, none⟩) n n, .slice (some ⟨g2, 0, none⟩) (n * 64) (n * 64), .slice (some ⟨g3, 0, none⟩) (n * 64) (n * 64), .bool false] 97))
    (r0 : w'.heap[g0]? = some (.cells (fresh (n * 4096) (.int .u8 0)) 5)) (r1 : w'.heap[g1]? = some (.cells (fresh n (.bool false)) 4)) (r2 : w'.heap[g2]? = some (.cells (fresh (n * 64) (.bool false)) 4)) (r3 : w'.heap[g3]? = some (.cells (fresh (n * 64) (.bool false)) 4))
    (d : g1 ≠ g2 ∧ g1 ≠ g3 ∧ g2 ≠ g3) (lo : w.heap.size ≤ b ∧ w.heap.size ≤ g0 ∧ w.heap.size ≤ g1 ∧ w.heap.size ≤ g2 ∧ w.heap.size ≤ g3) (hb : Below w.heap.size w w') :
    ∃ b' S, Ending.returned (.tuple #[.pointer (some ⟨b, 0, .none⟩), .int .i64 0]) = .returned (.tuple #[.pointer (some ⟨b', 0, .none⟩), .int .i64 0]) ∧ Ref w' b' S (RS.new n) ∧ (∀ k, S k → w.heap.size ≤ k) ∧ Below w.heap.size w w' := by
  refine ⟨b, RefOwned b g0 g1 g2 g3, rfl, ⟨g0, g1, g2, g3, { obj := o, r0 := ?_, r1 := ?_, r2 := ?_, r3 := ?_, d1 := d.1, d2 := d.2.1, d3 := d.2.2, ok := RS.new_ok h1 h2 }, fun k => Iff.rfl⟩, ?_, hb⟩
  · rw [r0, byteCells_zero]; rfl
  · rw [r1, boolCells_no]; rfl
  · rw [r2, boolCells_no]; rfl
  · rw [r3, boolCells_no]; rfl
  · rintro k (rfl | rfl | rfl | rfl | rfl)
    · exact lo.1
    · exact lo.2.1
    · exact lo.2.2.1
    · exact lo.2.2.2.1
    · exact lo.2.2.2.2
set_option maxHeartbeats 8000000 in
theorem rnew_any (w : World) (n : Nat) (h1 : 1 ≤ n) (h2 : n ≤ 256) :
    Calls Try.prog 24 #[.int .i64 n] w fun e w' => ∃ b S, e = .returned (.tuple #[.pointer (some ⟨b, 0, .none⟩), .int .i64 0]) ∧ Ref w' b S (RS.new n) ∧ (∀ k, S k → w.heap.size ≤ k) ∧ Below w.heap.size w w' := by
  have e64 : IntKind.i64.wrap (((n : Int) * 4096).tdiv 64) = ((n * 64 : Nat) : Int) := by rw [Int.tdiv_eq_ediv_of_nonneg (by omega), IntKind.wrap_i64]; omega
  have m0 := fun w => make_bytes w (n * 4096) (by omega) ((n : Int) * 4096) ((n : Int) * 4096) (by omega) (by omega)
  have m1 := fun w => make_bools w n (by omega) (n : Int) (n : Int) (by omega) (by omega)
  have m2 := fun w => make_bools w (n * 64) (by omega) (IntKind.i64.wrap (((n : Int) * 4096).tdiv 64)) (IntKind.i64.wrap (((n : Int) * 4096).tdiv 64)) e64 e64
  clear e64
  go_enter Try.func24, Try.ntmps24
  go_wp2_with fail
  go_region_held3 (fun w' => True) (trivial) (fail)
  all_goals
    clear m0 m1 m2
    go_wp2_with fail
    go_ret2
    refine rnew_close h1 h2 (by rw [heap_drew]; exact heap_at _ _ _ (by simp)) ?_ ?_ ?_ ?_ (by omega) (by omega) (by go_grown)
    all_goals simp only [heap_drew, alloc_heap, Array.getElem?_push, Array.size_push]
    all_goals (repeat (first | rw [if_neg (by omega)] | rw [if_pos (by omega)]))
set_option maxHeartbeats 1000000 in
theorem rnew_bad (w : World) (n : Int) (h : n < 1 ∨ 256 < n) :
    Calls Try.prog 24 #[.int .i64 n] w fun e w' => e = .returned (.tuple #[.pointer .none, .int .i64 50]) ∧ w = w' := by
  rcases h with h | h
  all_goals
    go_enter Try.func24, Try.ntmps24
    go_wp2_with fail
    go_ret2
    exact ⟨rfl, rfl⟩
end Go.Proofs.Ytojmpdddfnkffaa

