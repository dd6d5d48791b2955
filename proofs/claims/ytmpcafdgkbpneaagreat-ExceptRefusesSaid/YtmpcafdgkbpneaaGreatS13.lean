/- Steps of a proof: ExA, Heap, HeapB, ExB, SegW4, together. -/
import Derived.Test.YtmpcafdgkbpneaaGreatS12
import Derived.Test.YtmpcafdgkbpneaaGreatS1
import Derived.Test.YtmpcafdgkbpneaaGreatS6
import Derived.Deep.RegionWith
import Derived.Test.YtmpcafdgkbpneaaGreatS10
/- except, in plain words: steps that may give up with a fault; what a delivery and an end of one do. -/
set_option maxHeartbeats 4000000
namespace Go.Proofs.YtmpcafdgkbpneaaGreat
open Go.RowKit
set_option linter.unusedVariables false

structure Es where
 C : CpuS
 R : RS
def Ex (α : Type) : Type := Es → Except FaultS α × Es
section
variable {α β : Type}
def Ex.ret (a : α) : Ex α := fun s => (.ok a, s)
def Ex.upd (f : Es → Es) : Ex Unit := fun s => (.ok (), f s)
def Ex.at (f : Es → Ex α) : Ex α := fun s => f s s
def Ex.after (k : α → Ex β) : Except FaultS α × Es → Except FaultS β × Es
 | (.ok a, s1) => k a s1
 | (.error f, s1) => (.error f, s1)
def Ex.then (m : Ex α) (k : α → Ex β) : Ex β := fun s => Ex.after k (m s)
theorem Ex.then_ok {m : Ex α} {k : α → Ex β} {s s1 : Es} {a : α} (h : m s = (.ok a, s1)) : m.then k s = k a s1 := by unfold Ex.then; rw [h]; rfl
theorem Ex.then_no {m : Ex α} {k : α → Ex β} {s s1 : Es} {f : FaultS} (h : m s = (.error f, s1)) : m.then k s = (.error f, s1) := by unfold Ex.then; rw [h]; rfl
end
def needE (p : Bool) (vec cd : Int) : Ex Unit := fun s => if p then (.ok (), s) else (.error ⟨vec, cd, 0⟩, s)
theorem need_ok {p : Bool} (h : p = true) (vec cd : Int) (s : Es) : needE p vec cd s = (.ok (), s) := by unfold needE; rw [if_pos h]
theorem need_no {p : Bool} (h : p = false) (vec cd : Int) (s : Es) : needE p vec cd s = (.error ⟨vec, cd, 0⟩, s) := by unfold needE; rw [if_neg (by rw [h]; decide)]
def toldE (g : (Nat × FaultS) × RS) : Ex Nat := fun s => if 0 ≤ g.1.2.vec then (.error g.1.2, ⟨s.C, g.2⟩) else (.ok g.1.1, ⟨s.C, g.2⟩)
def sysE (a : Nat) (size : Int) : Ex Nat := fun s => toldE (ldOf (sy s.R s.C a size false)) s
def loadE (seg : Int) (off : Nat) (size : Int) : Ex Nat := fun s => toldE (ld s.R s.C seg off size) s
def storeE (seg : Int) (off : Nat) (size : Int) (v : Nat) : Ex Nat := fun s => toldE ((0, (st s.R s.C seg off size v).1), (st s.R s.C seg off size v).2) s
def CpuS.setR (C : CpuS) (i v : Nat) : CpuS := { C with r := fun j => if j = i then v else C.r j }
def CpuS.setSeg (C : CpuS) (i : Nat) (d : SegR) : CpuS := { C with seg := fun j => if j = i then d else C.seg j }
def CpuS.ring (C : CpuS) : Nat := (C.seg 1).sel % 4
def codeOfN (sel : Nat) : Nat := sel - sel % 4
def SegR.of (sel lo hi : Nat) : SegR := ⟨sel, false, (pBase lo hi).toNat, (pLimit lo hi).toNat, pTy hi, !hbit hi 12, pDpl hi, hbit hi 15, hbit hi 22⟩
def SegR.isCode (d : SegR) : Bool := !d.sys && tb d.typ 8 && d.big
def SegR.conf (d : SegR) : Bool := tb d.typ 4
def SegR.isStack (d : SegR) (ring : Int) : Bool := ((d.sel % 4 : Nat) : Int) == ring && d.dpl == ring && !d.sys && (bits .and .i64 d.typ 10 == 2)
def descE (sel : Nat) (vec cd : Int) : Ex SegR := Ex.at fun s =>
 (needE (sel / 4 % 2 == 0 && decide (sel - sel % 8 + 7 ≤ s.C.gl)) vec cd).then fun _ =>
 (sysE ((s.C.gb + (sel - sel % 8)) % 4294967296) 4).then fun lo =>
 (sysE (((s.C.gb + (sel - sel % 8)) % 4294967296 + 4) % 4294967296) 4).then fun hi => Ex.ret (SegR.of sel lo hi)
def pushE (v : Nat) : Ex Unit := Ex.at fun s =>
 (storeE 2 ((s.C.r 4 + 4294967292) % 4294967296) 4 v).then fun _ => Ex.upd fun s1 => ⟨s1.C.setR 4 ((s.C.r 4 + 4294967292) % 4294967296), s1.R⟩
def innerE (rn : Nat) (x : Int) : Ex Unit := Ex.at fun s =>
 (needE (decide (8 * rn + 11 ≤ s.C.tr.lim)) 10 ((codeOfN s.C.tr.sel : Nat) + x)).then fun _ =>
 (sysE ((s.C.tr.base + (8 * rn + 4)) % 4294967296) 4).then fun sp =>
 (sysE (((s.C.tr.base + (8 * rn + 4)) % 4294967296 + 4) % 4294967296) 2).then fun sel =>
 (needE (codeOfN sel != 0) 10 x).then fun _ =>
 (descE sel 10 ((codeOfN sel : Nat) + x)).then fun d =>
 (needE (d.isStack rn) 10 ((codeOfN sel : Nat) + x)).then fun _ =>
 (needE d.pre 12 ((codeOfN sel : Nat) + x)).then fun _ => Ex.upd fun s1 => ⟨(s1.C.setSeg 2 d).setR 4 sp, s1.R⟩
def clr (f m : Nat) : Nat := f &&& (4294967295 - m)
def xOf (soft : Bool) : Int := if soft then 0 else 1
def CpuS.placed (C : CpuS) (place kind : Nat) : CpuS :=
 {C with eip := place, flags := if kind = 14 then clr (clr C.flags 16640) 512 else clr C.flags 16640, shadow := false, halted := false }
def whenE (p : Bool) (m : Ex Unit) : Ex Unit := if p then m else Ex.ret ()
def pushesE (old : CpuS) (other : Bool) (num : Int) : Ex Unit :=
 (whenE other ((pushE (old.seg 2).sel).then fun _ => pushE (old.r 4))).then fun _ =>
 (pushE old.flags).then fun _ => (pushE (old.seg 1).sel).then fun _ => (pushE old.eip).then fun _ =>
 whenE (decide (0 ≤ num)) (pushE (num % 4294967296).toNat)
def toRing (d : SegR) (ring : Nat) : Nat := if !d.conf && decide (d.dpl < ring) then d.dpl.toNat else ring
def enter3 (num : Int) (x : Int) (kind sel place : Nat) (d : SegR) : Ex Unit := Ex.at fun s =>
 (whenE (!d.conf && decide (d.dpl < s.C.ring)) (innerE (toRing d s.C.ring) x)).then fun _ =>
 (Ex.upd fun s1 => ⟨s1.C.setSeg 1 { d with sel := sel - sel % 4 + toRing d s.C.ring }, s1.R⟩).then fun _ =>
 (pushesE s.C (toRing d s.C.ring != s.C.ring) num).then fun _ => Ex.upd fun s2 => ⟨s2.C.placed place kind, s2.R⟩
def enter2 (v : Nat) (num : Int) (soft : Bool) (lo hi : Nat) : Ex Unit := Ex.at fun s =>
 (needE ((hi / 256 % 32 == 14 || hi / 256 % 32 == 15) && (!soft || decide (s.C.ring ≤ hi / 8192 % 4))) 13 (8 * (v : Int) + 2 + xOf soft)).then fun _ =>
 (needE (hi / 32768 % 2 == 1) 11 (8 * (v : Int) + 2 + xOf soft)).then fun _ =>
 (needE (codeOfN (lo / 65536) != 0) 13 (xOf soft)).then fun _ =>
 (descE (lo / 65536) 13 ((codeOfN (lo / 65536) : Nat) + xOf soft)).then fun d =>
 (needE (d.isCode && decide (d.dpl ≤ s.C.ring)) 13 ((codeOfN (lo / 65536) : Nat) + xOf soft)).then fun _ =>
 (needE d.pre 11 ((codeOfN (lo / 65536) : Nat) + xOf soft)).then fun _ =>
 (needE (decide (lo % 65536 + hi / 65536 * 65536 ≤ d.lim)) 13 (xOf soft)).then fun _ =>
 enter3 num (xOf soft) (hi / 256 % 32) (lo / 65536) (lo % 65536 + hi / 65536 * 65536) d
def enter1 (v : Nat) (num : Int) (soft : Bool) : Ex Unit := Ex.at fun s =>
 (needE (decide (8 * v + 7 ≤ s.C.il)) 13 (8 * (v : Int) + 2 + xOf soft)).then fun _ =>
 (sysE ((s.C.ib + 8 * v) % 4294967296) 4).then fun lo =>
 (sysE ((s.C.ib + (8 * v + 4)) % 4294967296) 4).then fun hi => enter2 v num soft lo hi
def enterE (vec num : Int) (soft : Bool) : Ex Unit := (needE (decide (0 ≤ vec) && decide (vec < 256)) 13 0).then fun _ => enter1 vec.toNat num soft
def triedE (m : Ex Unit) (s : Es) : FaultS × Es :=
 match m s with
 | (.ok _, s1) => (noF, s1)
 | (.error f, s1) => (f, ⟨s.C, s1.R⟩)
def clsE (vec : Int) : Int := if vec = 0 ∨ (10 ≤ vec ∧ vec ≤ 13) then 1 else if vec = 14 then 2 else 0
def fault1 (f : FaultS) (s : Es) : Option FaultS × Es :=
 let s0 : Es := if f.vec = 14 then ⟨{ s.C with cr2 := f.cr2 }, s.R⟩ else s
 let g := triedE (enterE f.vec f.cd false) s0
 if g.1.vec < 0 then (none, g.2) else
 if f.vec = 8 then (none, ⟨{ g.2.C with dead := true }, g.2.R⟩) else
 if clsE f.vec = 1 ∧ clsE g.1.vec = 1 ∨ clsE f.vec = 2 ∧ 0 < clsE g.1.vec then (some ⟨8, 0, 0⟩, g.2) else (some g.1, g.2)
def faultN : Nat → FaultS → Es → Option FaultS × Es
 | 0, f, s => (some f, s)
 | k + 1, f, s => if f.vec < 0 then (none, s) else
  match fault1 f s with
  | (none, s1) => (none, s1)
  | (some g, s1) => faultN k g s1
def maskOf (C : CpuS) : Nat := 19925 + (if C.ring ≤ C.flags / 4096 % 4 then 512 else 0) + (if C.ring = 0 then 12288 else 0)
def poppedE (C : CpuS) (v : Nat) : Nat := ((C.flags &&& (4294967295 - maskOf C)) ||| (v &&& maskOf C)) ||| 2
def SegR.drops (d : SegR) (rn : Nat) : Bool := !d.nul && (!d.sys && decide (0 ≤ d.typ) && decide (d.typ < 16) && (bits .and .i64 d.typ 12 != 12)) && decide (d.dpl < rn)
def nullSeg : SegR := ⟨0, true, 0, 0, 0, false, 0, false, false⟩
def CpuS.dropSegs (C : CpuS) (rn : Nat) : CpuS := { C with seg := fun j => if (j = 0 ∨ j = 3 ∨ j = 4 ∨ j = 5) ∧ (C.seg j).drops rn = true then nullSeg else C.seg j }
def nextE (size : Nat) (at_ : Nat) : Ex Nat := loadE 2 at_ size
def CpuS.left (C : CpuS) (size place sel flags : Nat) (d : SegR) : CpuS :=
 ({ C with flags := poppedE C flags, eip := place, shadow := false }).setSeg 1 { d with sel := sel }
def at3 (C : CpuS) (size k : Nat) : Nat := (C.r 4 + k * size) % 4294967296
def return3 (size place sel flags : Nat) (d : SegR) : Ex Unit := Ex.at fun s =>
 (needE (decide (place ≤ d.lim)) 13 0).then fun _ => Ex.upd fun s1 => ⟨(s.C.left size place sel flags d).setR 4 (at3 s.C size 3), s1.R⟩
def spOf (C : CpuS) (size sp : Nat) : Nat := if size = 2 then C.r 4 / 65536 * 65536 + sp else sp
def return2 (size place sel flags : Nat) (d : SegR) : Ex Unit := Ex.at fun s =>
 (nextE size (at3 s.C size 3)).then fun sp =>
 (nextE size (at3 s.C size 4)).then fun ssel =>
 (needE (codeOfN (ssel % 65536) != 0) 13 0).then fun _ =>
 (descE (ssel % 65536) 13 (codeOfN (ssel % 65536) : Nat)).then fun ss =>
 (needE (ss.isStack (sel % 4 : Nat)) 13 (codeOfN (ssel % 65536) : Nat)).then fun _ =>
 (needE ss.pre 12 (codeOfN (ssel % 65536) : Nat)).then fun _ =>
 (needE (decide (place ≤ d.lim)) 13 0).then fun _ => Ex.upd fun s1 =>
  ⟨((((s.C.left size place sel flags d).setSeg 2 ss).setR 4 (spOf s.C size sp)).dropSegs (sel % 4)), s1.R⟩
def return1 (size : Nat) : Ex Unit := Ex.at fun s =>
 (needE (s.C.flags / 16384 % 2 == 0) 13 0).then fun _ =>
 (nextE size (s.C.r 4)).then fun place =>
 (nextE size (at3 s.C size 1)).then fun sel =>
 (nextE size (at3 s.C size 2)).then fun flags =>
 (needE (codeOfN (sel % 65536) != 0) 13 0).then fun _ =>
 (needE (decide (s.C.ring ≤ sel % 4)) 13 (codeOfN (sel % 65536) : Nat)).then fun _ =>
 (descE (sel % 65536) 13 (codeOfN (sel % 65536) : Nat)).then fun d =>
 (needE (d.isCode && (d.dpl == ((sel % 4 : Nat) : Int) || (d.conf && decide (d.dpl < ((sel % 4 : Nat) : Int))))) 13 (codeOfN (sel % 65536) : Nat)).then fun _ =>
 (needE d.pre 11 (codeOfN (sel % 65536) : Nat)).then fun _ =>
 if s.C.ring < sel % 4 then return2 size place (sel % 65536) flags d else return3 size place (sel % 65536) flags d
def returnE (size : Int) : Ex Unit := (needE (size == 2 || size == 4) 13 0).then fun _ => return1 size.toNat
end Go.Proofs.YtmpcafdgkbpneaaGreat

/- Objects side by side, any number of them: each with blocks of its own. -/
namespace Go.Proofs.YtmpcafdgkbpneaaGreat
open Go.RowKit
set_option linter.unusedVariables false

structure Ob where
 P : World → (Nat → Prop) → Prop
 loc : ∀ {w w' : World} {H : Nat → Prop}, P w H → (∀ k, H k → w'.heap[k]? = w.heap[k]?) → P w' H
 lt : ∀ {w : World} {H : Nat → Prop}, P w H → ∀ k, H k → k < w.heap.size

def Side : List Ob → World → (Nat → Prop) → Prop
 | [], _, H => ∀ k, ¬ H k
 | o :: os, w, H => ∃ A B, o.P w A ∧ Side os w B ∧ (∀ k, A k → ¬ B k) ∧ ∀ k, H k ↔ A k ∨ B k

theorem Side.lt : ∀ (os : List Ob) {w : World} {H : Nat → Prop}, Side os w H → ∀ k, H k → k < w.heap.size
 | [], w, H, S => fun k hk => (S k hk).elim
 | o :: os, w, H, S => fun k hk => by
  obtain ⟨A, B, a, b, d, e⟩ := S
  rcases (e k).1 hk with h | h
  ·exact o.lt a k h
  ·exact Side.lt os b k h
theorem Side.loc : ∀ (os : List Ob) {w w' : World} {H : Nat → Prop}, Side os w H → (∀ k, H k → w'.heap[k]? = w.heap[k]?) → Side os w' H
 | [], w, w', H, S, h => S
 | o :: os, w, w', H, S, h => by
  obtain ⟨A, B, a, b, d, e⟩ := S
  exact ⟨A, B, o.loc a fun k hk => h k ((e k).2 (.inl hk)), Side.loc os b fun k hk => h k ((e k).2 (.inr hk)), d, e⟩
def Ob.all (os : List Ob) : Ob := ⟨Side os, fun h g => Side.loc os h g, fun h => Side.lt os h⟩
def Ob.any {α : Type} (o : α → Ob) : Ob := ⟨fun w H => ∃ a, (o a).P w H, fun ⟨a, h⟩ g => ⟨a, (o a).loc h g⟩, fun ⟨a, h⟩ => (o a).lt h⟩
def Ob.box (b : Nat) (x : Obj) : Ob := ⟨fun w H => w.heap[b]? = some x ∧ ∀ k, H k ↔ k = b, fun h g => ⟨(g b ((h.2 b).2 rfl)).trans h.1, h.2⟩, fun h k hk => by rw [(h.2 k).1 hk]; exact heap_lt h.1⟩

theorem Side.split : ∀ (os : List Ob) (i : Nat) {o : Ob} {w : World} {H : Nat → Prop}, os[i]? = some o → Side os w H →
    ∃ A, o.P w A ∧ (∀ k, A k → H k) ∧ ∀ (w' : World) (A' : Nat → Prop) (o' : Ob), o'.P w' A' → Moves A A' w w' → ∃ H', Side (os.set i o') w' H' ∧ Moves H H' w w'
 | [], i, o, w, H, hi, S => by simp at hi
 | x :: os, 0, o, w, H, hi, S => by
  have hx : x = o := by simpa using hi
  subst hx
  obtain ⟨A, B, a, b, d, e⟩ := S
  refine ⟨A, a, fun k hk => (e k).2 (.inl hk), fun w' A' o' a' M => ⟨fun k => A' k ∨ B k, ⟨A', B, a', Side.loc os b fun k hk => M.1.block k (Side.lt os b k hk) fun h => d k h hk, fun k h1 h2 => ?_, fun k => Iff.rfl⟩, M.1.mono fun k _ h => (e k).2 (.inl h), fun k hk => ?_⟩⟩
  ·rcases M.2 k h1 with h | h
   ·exact d k h h2
   ·have := Side.lt os b k h2; omega
  ·rcases hk with hk | hk
   ·exact (M.2 k hk).imp (fun h => (e k).2 (.inl h)) id
   ·exact .inl ((e k).2 (.inr hk))
 | x :: os, i + 1, o, w, H, hi, S => by
  obtain ⟨A, B, a, b, d, e⟩ := S
  obtain ⟨C, c, cb, h⟩ := Side.split os i (by simpa using hi) b
  refine ⟨C, c, fun k hk => (e k).2 (.inr (cb k hk)), fun w' C' o' c' M => ?_⟩
  obtain ⟨B', b', N⟩ := h w' C' o' c' M
  refine ⟨fun k => A k ∨ B' k, ⟨A, B', x.loc a fun k hk => N.1.block k (x.lt a k hk) (d k hk), b', fun k h1 h2 => ?_, fun k => Iff.rfl⟩, N.1.mono fun k _ h => (e k).2 (.inr h), fun k hk => ?_⟩
  ·rcases N.2 k h2 with h | h
   ·exact d k h1 h
   ·have := x.lt a k h1; omega
  ·rcases hk with hk | hk
   ·exact .inl ((e k).2 (.inl hk))
   ·exact (N.2 k hk).imp (fun h => (e k).2 (.inr h)) id
theorem Side.snoc {o : Ob} : ∀ (os : List Ob) {w : World} {H A : Nat → Prop}, Side os w H → o.P w A → (∀ k, H k → ¬ A k) → Side (os ++ [o]) w (fun k => H k ∨ A k)
 | [], w, H, A, S, a, d => ⟨A, H, a, S, fun k _ h => S k h, fun k => ⟨fun h => h.symm, fun h => h.symm⟩⟩
 | x :: os, w, H, A, S, a, d => by
  obtain ⟨C, B, c, b, f, e⟩ := S
  refine ⟨C, fun k => B k ∨ A k, c, Side.snoc os b a fun k h => d k ((e k).2 (.inr h)), fun k h1 h2 => ?_, fun k => ?_⟩
  ·rcases h2 with h2 | h2
   ·exact f k h1 h2
   ·exact d k ((e k).2 (.inl h1)) h2
  ·show (H k ∨ A k) ↔ _
   rw [e k, or_assoc]

def Hp (w0 : World) (A0 : Nat → Prop) (w : World) (os : List Ob) : Prop := ∃ A, Side os w A ∧ Moves A0 A w0 w
section
variable {w0 w w' : World} {A0 : Nat → Prop} {os : List Ob} {o : Ob}
theorem Hp.zero (w : World) : Hp w (fun _ => False) w [] := ⟨fun _ => False, fun _ h => h, Moves.refl _ _⟩
theorem Hp.start {A : Nat → Prop} (h : (Ob.all os).P w A) : Hp w A w os := ⟨A, h, Moves.refl _ _⟩
theorem Hp.end_ (T : Hp w0 A0 w os) : ∃ A, (Ob.all os).P w A ∧ Moves A0 A w0 w := T
theorem Hp.below (T : Hp w0 (fun _ => False) w os) : Below w0.heap.size w0 w := by
 obtain ⟨A, a, M⟩ := T
 exact Keeps.toBelow (Below.refl _ _) M.1 (Nat.le_refl _) fun k h => h.elim
theorem Hp.grow (T : Hp w0 A0 w os) (hb : Below w.heap.size w w') : Hp w0 A0 w' os := by
 obtain ⟨A, a, M⟩ := T
 exact ⟨A, Side.loc os a fun k hk => hb.block k (Side.lt os a k hk), M.1.below hb, M.2⟩
theorem Hp.alloc (T : Hp w0 A0 w os) (x : Obj) : Hp w0 A0 (w.alloc x) os := T.grow ((Below.refl _ _).alloc (Nat.le_refl _) _)
theorem Hp.drew (T : Hp w0 A0 w os) : Hp w0 A0 w.drew os := T.grow ⟨rfl, rfl, rfl, Nat.le_refl _, fun _ _ => rfl⟩
theorem Hp.drewN (T : Hp w0 A0 w os) (n : Nat) : Hp w0 A0 (w.drewN n) os := T.grow ⟨rfl, rfl, rfl, Nat.le_refl _, fun _ _ => rfl⟩
theorem Hp.get (T : Hp w0 A0 w os) (i : Nat) (h : os[i]? = some o) : ∃ A, o.P w A := by
 obtain ⟨A, a, M⟩ := T
 obtain ⟨C, c, _⟩ := Side.split os i h a
 exact ⟨C, c⟩
theorem Hp.turn (T : Hp w0 A0 w os) (i : Nat) (h : os[i]? = some o) : ∃ A, o.P w A ∧ ∀ (w' : World) (A' : Nat → Prop) (o' : Ob), o'.P w' A' → Moves A A' w w' → Hp w0 A0 w' (os.set i o') := by
 obtain ⟨A, a, M⟩ := T
 obtain ⟨C, c, _, g⟩ := Side.split os i h a
 refine ⟨C, c, fun w' C' o' c' N => ?_⟩
 obtain ⟨H', s', M'⟩ := g w' C' o' c' N
 exact ⟨H', s', M.trans M'⟩
theorem Hp.call (T : Hp w0 A0 w os) (i : Nat) {f : FuncId} {args : Array Value} {Q : Ending → Ob → Prop} (h : os[i]? = some o)
    (hc : ∀ A, o.P w A → Calls Tryz.prog f args w fun e w' => ∃ o', Q e o' ∧ ∃ A', o'.P w' A' ∧ Moves A A' w w') :
    Calls Tryz.prog f args w fun e w' => ∃ o', Q e o' ∧ Hp w0 A0 w' (os.set i o') := by
 obtain ⟨C, c, g⟩ := T.turn i h
 refine (hc C c).mono ?_
 rintro e w' ⟨o', q, A', a', M⟩
 exact ⟨o', q, g _ _ _ a' M⟩
theorem Hp.new {A : Nat → Prop} (T : Hp w0 A0 w os) (hb : Below w.heap.size w w') (a : o.P w' A) (hA : ∀ k, A k → w.heap.size ≤ k) : Hp w0 A0 w' (os ++ [o]) := by
 obtain ⟨H, s, M⟩ := T
 have s' := Side.loc os s fun k hk => hb.block k (Side.lt os s k hk)
 refine ⟨fun k => H k ∨ A k, s'.snoc os a fun k h1 h2 => by have := Side.lt os s k h1; have := hA k h2; omega, M.1.below hb, fun k hk => ?_⟩
 rcases hk with hk | hk
 ·exact M.2 k hk
 ·exact .inr (Nat.le_trans M.1.size (hA k hk))
theorem Hp.make (T : Hp w0 A0 w os) (x : Obj) : Hp w0 A0 (w.alloc x) (os ++ [Ob.box w.heap.size x]) :=
 T.new ((Below.refl _ _).alloc (Nat.le_refl _) _) (A := fun k => k = w.heap.size) ⟨heap_new w x, fun k => Iff.rfl⟩ fun k h => by omega
theorem Hp.box (T : Hp w0 A0 w os) (i : Nat) {b : Nat} {x : Obj} (h : os[i]? = some (Ob.box b x)) : w.heap[b]? = some x := by
 obtain ⟨A, a⟩ := T.get i h; exact a.1
theorem Hp.set (T : Hp w0 A0 w os) (i : Nat) {b : Nat} {xs : Array Value} {T0 : TypeId} (h : os[i]? = some (Ob.box b (.cells xs T0))) (k : Nat) (v : Value) :
    Hp w0 A0 (w.setCell ⟨b, k, none⟩ v) (os.set i (Ob.box b (.cells (xs.setIfInBounds k v) T0))) := by
 obtain ⟨A, ⟨a, e⟩, g⟩ := T.turn i h
 refine g _ A _ ⟨?_, e⟩ ⟨((Keeps.refl _ _).setCell (.inl ((e b).2 rfl)) _), fun k hk => .inl hk⟩
 rw [heap_set_map, a]; rfl
end
def Acts (f : FuncId) (args : Array Value) (o : Ob) (r : Value) (o' : Ob) : Prop := ∀ w A, o.P w A → Calls Tryz.prog f args w fun e w' => e = .returned r ∧ ∃ A', o'.P w' A' ∧ Moves A A' w w'
theorem Hp.act {w0 w : World} {A0 : Nat → Prop} {os : List Ob} {o o' : Ob} {f : FuncId} {args : Array Value} {r : Value} (T : Hp w0 A0 w os) (i : Nat) (h : os[i]? = some o) (c : Acts f args o r o') :
    Calls Tryz.prog f args w fun e w' => e = .returned r ∧ Hp w0 A0 w' (os.set i o') := by
 obtain ⟨C, a, g⟩ := T.turn i h
 refine (c _ C a).mono ?_
 rintro e w' ⟨rfl, A', a', M⟩
 exact ⟨rfl, g _ _ _ a' M⟩
end Go.Proofs.YtmpcafdgkbpneaaGreat

/- Objects side by side: one becomes two, some are left, rows. -/
namespace Go.Proofs.YtmpcafdgkbpneaaGreat
open Go.RowKit
set_option linter.unusedVariables false

theorem Side.iff : ∀ (os : List Ob) {w : World} {H H' : Nat → Prop}, Side os w H → (∀ k, H' k ↔ H k) → Side os w H'
 | [], w, H, H', S, h => fun k hk => S k ((h k).1 hk)
 | o :: os, w, H, H', S, h => by
  obtain ⟨A, B, a, b, d, e⟩ := S
  exact ⟨A, B, a, b, d, fun k => (h k).trans (e k)⟩
theorem Side.append : ∀ (l1 l2 : List Ob) {w : World} {H : Nat → Prop}, Side (l1 ++ l2) w H → ∃ A B, Side l1 w A ∧ Side l2 w B ∧ (∀ k, A k → ¬ B k) ∧ ∀ k, H k ↔ A k ∨ B k
 | [], l2, w, H, S => ⟨fun _ => False, H, fun _ h => h, S, fun _ h => h.elim, fun k => ⟨.inr, fun h => h.elim False.elim id⟩⟩
 | x :: l1, l2, w, H, S => by
  obtain ⟨C, D, c, d, f, e⟩ := S
  obtain ⟨A, B, a, b, g, h⟩ := Side.append l1 l2 d
  refine ⟨fun k => C k ∨ A k, B, ⟨C, A, c, a, fun k h1 h2 => f k h1 ((h k).2 (.inl h2)), fun k => Iff.rfl⟩, b, fun k h1 h2 => ?_, fun k => ?_⟩
  ·rcases h1 with h1 | h1
   ·exact f k h1 ((h k).2 (.inr h2))
   ·exact g k h1 h2
  ·rw [e k, h k, or_assoc]
theorem Side.join : ∀ (l1 l2 : List Ob) {w : World} {A B : Nat → Prop}, Side l1 w A → Side l2 w B → (∀ k, A k → ¬ B k) → Side (l1 ++ l2) w (fun k => A k ∨ B k)
 | [], l2, w, A, B, a, b, d => Side.iff l2 b fun k => ⟨fun h => h.elim (fun h => (a k h).elim) id, .inr⟩
 | x :: l1, l2, w, A, B, a, b, d => by
  obtain ⟨C, D, c, dd, f, e⟩ := a
  refine ⟨C, fun k => D k ∨ B k, c, Side.join l1 l2 dd b (fun k h => d k ((e k).2 (.inr h))), fun k h1 h2 => ?_, fun k => ?_⟩
  ·rcases h2 with h2 | h2
   ·exact f k h1 h2
   ·exact d k ((e k).2 (.inl h1)) h2
  ·show (A k ∨ B k) ↔ _
   rw [e k, or_assoc]
theorem Side.two (os : List Ob) : ∀ (i : Nat) {x y : Ob} {w : World} {H : Nat → Prop}, os[i]? = some (Ob.all [x, y]) → Side os w H → Side (os.set i x ++ [y]) w H := by
 induction os with
 | nil => intro i x y w H hi S; simp at hi
 | cons o os ih =>
  intro i x y w H hi S
  cases i with
  | zero =>
   have hx : o = Ob.all [x, y] := by simpa using hi
   subst hx
   obtain ⟨A, B, ⟨A1, A2, a1, ⟨A3, A4, a3, a4, f3, e3⟩, f1, e1⟩, b, d, e⟩ := S
   refine ⟨A1, fun k => B k ∨ A3 k, a1, Side.snoc os b a3 (fun k h1 h2 => d k ((e1 k).2 (.inr ((e3 k).2 (.inl h2)))) h1), fun k h1 h2 => ?_, fun k => ?_⟩
   ·rcases h2 with h2 | h2
    ·exact d k ((e1 k).2 (.inl h1)) h2
    ·exact f1 k h1 ((e3 k).2 (.inl h2))
   ·rw [e k, e1 k, e3 k]
    have := a4 k
    constructor
    ·rintro ((h | h | h) | h)
     ·exact .inl h
     ·exact .inr (.inr h)
     ·exact (this h).elim
     ·exact .inr (.inl h)
    ·rintro (h | h | h)
     ·exact .inl (.inl h)
     ·exact .inr h
     ·exact .inl (.inr (.inl h))
  | succ i =>
   obtain ⟨A, B, a, b, d, e⟩ := S
   exact ⟨A, B, a, ih i (by simpa using hi) b, d, e⟩
section
variable {w0 w w' : World} {A0 : Nat → Prop} {os : List Ob} {o x y : Ob}
theorem Hp.two (T : Hp w0 A0 w os) (i : Nat) (h : os[i]? = some (Ob.all [x, y])) : Hp w0 A0 w (os.set i x ++ [y]) := by
 obtain ⟨A, a, M⟩ := T
 exact ⟨A, Side.two os i h a, M⟩
theorem Hp.left {l1 l2 : List Ob} (T : Hp w0 A0 w (l1 ++ l2)) : Hp w0 A0 w l1 := by
 obtain ⟨A, a, M⟩ := T
 obtain ⟨B, C, b, c, d, e⟩ := Side.append l1 l2 a
 exact ⟨B, b, M.1, fun k hk => M.2 k ((e k).2 (.inl hk))⟩
theorem Hp.pack {l1 l2 : List Ob} (T : Hp w0 A0 w (l1 ++ l2)) (h : ∀ A, Side l1 w A → o.P w A) : Hp w0 A0 w (o :: l2) := by
 obtain ⟨A, a, M⟩ := T
 obtain ⟨B, C, b, c, d, e⟩ := Side.append l1 l2 a
 exact ⟨A, ⟨B, C, h B b, c, d, e⟩, M⟩
theorem Hp.open_ {l1 l2 : List Ob} (T : Hp w0 A0 w (Ob.all l1 :: l2)) : Hp w0 A0 w (l1 ++ l2) := by
 obtain ⟨A, ⟨B, C, b, c, d, e⟩, M⟩ := T
 exact ⟨A, Side.iff _ (Side.join l1 l2 b c d) e, M⟩
theorem Hp.alter (T : Hp w0 A0 w os) (i : Nat) (h : os[i]? = some o) (hc : ∀ A, o.P w A → x.P w A) : Hp w0 A0 w (os.set i x) := by
 obtain ⟨A, a, g⟩ := T.turn i h
 exact g _ _ _ (hc A a) (Moves.refl _ _)
end
end Go.Proofs.YtmpcafdgkbpneaaGreat

/- except: the environment as an object; giving up; ring, code, the marks of descriptors. -/
namespace Go.Proofs.YtmpcafdgkbpneaaGreat
open Go.RowKit Go.MapKept
set_option linter.unusedVariables false

def faultX (f : FaultS) : Value := .iface 141 (.agg #[.int .i64 f.vec, .int .i64 f.cd, .int .u32 (f.cr2 : Nat)])
def gaveX (f : FaultS) : Ending := .panicked [{ v := faultX f, recovered := false }]
theorem need_yes (v c : Int) (w : World) : Calls Tryz.prog 26 #[.bool true, .int .i64 v, .int .i64 c] w fun e w' => e = .returned (.tuple #[]) ∧ w' = w := by
 go_enter Tryz.func26, Tryz.ntmps26
 go_wp2_with fail
 go_end0
 exact ⟨rfl, rfl⟩
theorem need_not (v c : Int) (w : World) : Calls Tryz.prog 26 #[.bool false, .int .i64 v, .int .i64 c] w fun e w' => e = gaveX ⟨v, c, 0⟩ ∧ w' = w := by
 go_enter Tryz.func26, Tryz.ntmps26
 go_wp2_with fail
 exact ⟨rfl, rfl, rfl⟩
theorem pass_yes (f : FaultS) (h : f.vec < 0) (w : World) : Calls Tryz.prog 50 #[.agg #[.int .i64 f.vec, .int .i64 f.cd, .int .u32 (f.cr2 : Nat)]] w fun e w' => e = .returned (.tuple #[]) ∧ Below w.heap.size w w' := by
 go_enter Tryz.func50, Tryz.ntmps50
 go_wp2_with fail
 go_end0
 exact ⟨rfl, (Below.refl _ _).alloc (Nat.le_refl _) _⟩
theorem pass_not (f : FaultS) (h : 0 ≤ f.vec) (w : World) : Calls Tryz.prog 50 #[.agg #[.int .i64 f.vec, .int .i64 f.cd, .int .u32 (f.cr2 : Nat)]] w fun e w' => e = gaveX f ∧ Below w.heap.size w w' := by
 go_enter Tryz.func50, Tryz.ntmps50
 go_wp2_with fail
 exact ⟨rfl, rfl, (Below.refl _ _).alloc (Nat.le_refl _) _⟩
theorem code_x (sel : Nat) (h : sel < 65536) (x : Int) (hx : x = (sel : Int)) (w : World) : Calls Tryz.prog 29 #[.int .u16 x] w fun e w' => e = .returned (.int .i64 (codeOfN sel : Nat)) ∧ w' = w := by
 subst hx
 have e1 : bits .andNot .u16 (sel : Int) 3 = ((codeOfN sel : Nat) : Int) := by
  have e := u16_andNot_nat sel 3 h (by decide)
  have f := nat_field sel 2 14
  unfold codeOfN
  rw [show (3 : Int) = ((3 : Nat) : Int) from rfl, e, show 65535 - 3 = (2 ^ 14 - 1) * 2 ^ 2 by decide, f]
  omega
 have e2 : wrap64 ((codeOfN sel : Nat) : Int) = ((codeOfN sel : Nat) : Int) := IntWalk.wrap64_in _ (by unfold codeOfN; omega)
 go_enter Tryz.func29, Tryz.ntmps29
 go_wp2_with fail
 go_ret
 exact ⟨by rw [e2]; rfl, rfl⟩
def envCells (C : CpuS) (vb bb : Nat) : Array Value := (C.cells ++ [Value.pointer (some ⟨vb, 0, none⟩), Value.pointer (some ⟨bb, 0, none⟩)]).toArray
structure En (w : World) (eb vb bb : Nat) (pl : Pl) (n : Nat) (H : Nat → Prop) (s : Es) : Prop where
 box : w.heap[eb]? = some (.cells (envCells s.C vb bb) 40)
 cok : s.C.ok
 vm : Vm w vb pl n H s.R
 out : ¬ H eb
def oEn (eb vb bb : Nat) (pl : Pl) (n : Nat) (s : Es) : Ob := ⟨fun w A => ∃ H, En w eb vb bb pl n H s ∧ ∀ k, A k ↔ k = eb ∨ H k,
 fun ⟨H, h, e⟩ g => ⟨H, ⟨(g eb ((e eb).2 (.inl rfl))).trans h.box, h.cok, h.vm.of_heap fun k hk => g k ((e k).2 (.inr hk)), h.out⟩, e⟩,
 fun ⟨H, h, e⟩ k hk => by
  rcases (e k).1 hk with rfl | hk
  ·exact heap_lt h.box
  ·exact h.vm.lt k hk⟩
theorem Hp.solo {w : World} {A : Nat → Prop} {o : Ob} (h : o.P w A) : Hp w A w [o] := ⟨A, ⟨A, fun _ => False, h, fun _ h => h, fun _ _ h => h, fun k => ⟨.inl, fun h => h.elim id False.elim⟩⟩, Moves.refl _ _⟩
section
variable {w w' w0 : World} {A A0 : Nat → Prop} {os : List Ob} {eb vb bb : Nat} {pl : Pl} {n n' : Nat} {H H' : Nat → Prop} {s s' : Es}
theorem En.cpu (h : En w eb vb bb pl n H s) : CpuAt w eb s.C := ⟨h.cok, _, _, h.box⟩
theorem En.two (h : En w eb vb bb pl n H s) : w.cell? ⟨eb, 83, none⟩ = some (.pointer (some ⟨vb, 0, none⟩)) ∧ w.cell? ⟨eb, 84, none⟩ = some (.pointer (some ⟨bb, 0, none⟩)) ∧ eb < w.heap.size := by
 refine ⟨?_, ?_, heap_lt h.box⟩ <;> (rw [cell_at h.box]; rfl)
theorem oEn_more (hn : n ≤ n') (h : (oEn eb vb bb pl n s).P w A) : (oEn eb vb bb pl n' s).P w A := by
 obtain ⟨H, E, e⟩ := h
 exact ⟨H, ⟨E.box, E.cok, E.vm.more hn, E.out⟩, e⟩
theorem oEn_wide (h : (oEn eb vb bb pl n s).P w A) : Wide s.R := by obtain ⟨H, E, e⟩ := h; exact E.vm.wide
theorem oEn_ok (h : (oEn eb vb bb pl n s).P w A) : s.C.ok := by obtain ⟨H, E, e⟩ := h; exact E.cok
theorem oEn_mem {R' : RS} (E : En w eb vb bb pl n H s) (e : ∀ k, A k ↔ k = eb ∨ H k) (hV : Vm w' vb pl n' H' R') (M : Moves H H' w w') : ∃ A', (oEn eb vb bb pl n' ⟨s.C, R'⟩).P w' A' ∧ Moves A A' w w' := by
 have hl := heap_lt E.box
 refine ⟨fun k => k = eb ∨ H' k, ⟨H', ⟨(M.1.block eb hl E.out).trans E.box, E.cok, hV, fun h => ?_⟩, fun k => Iff.rfl⟩, M.1.mono fun k _ h => (e k).2 (.inr h), fun k h => ?_⟩
 ·rcases M.2 eb h with h | h
  ·exact E.out h
  ·omega
 ·rcases h with rfl | h
  ·exact .inl ((e k).2 (.inl rfl))
  ·exact (M.2 k h).imp (fun h => (e k).2 (.inr h)) id
theorem oEn_cpu {C' : CpuS} (E : En w eb vb bb pl n H s) (e : ∀ k, A k ↔ k = eb ∨ H k) (hb : w'.heap[eb]? = some (.cells (envCells C' vb bb) 40)) (hok : C'.ok) (K : Keeps (· = eb) w w') : ∃ A', (oEn eb vb bb pl n ⟨C', s.R⟩).P w' A' ∧ Moves A A' w w' :=
 ⟨A, ⟨H, ⟨hb, hok, E.vm.of_heap fun k hk => K.block k (E.vm.lt k hk) (fun h => E.out (by rw [← h]; exact hk)), E.out⟩, e⟩, K.mono fun k _ h => (e k).2 (.inl h), fun k hk => .inl hk⟩
theorem Hp.en (T : Hp w0 A0 w os) (i : Nat) (hi : os[i]? = some (oEn eb vb bb pl n s)) : w.cell? ⟨eb, 83, none⟩ = some (.pointer (some ⟨vb, 0, none⟩)) ∧ w.cell? ⟨eb, 84, none⟩ = some (.pointer (some ⟨bb, 0, none⟩)) ∧ eb < w.heap.size := by
 obtain ⟨A, H, E, e⟩ := T.get i hi
 exact E.two
theorem Hp.cpu (T : Hp w0 A0 w os) (i : Nat) (hi : os[i]? = some (oEn eb vb bb pl n s)) : CpuAt w eb s.C := by
 obtain ⟨A, H, E, e⟩ := T.get i hi
 exact E.cpu
theorem Hp.wide (T : Hp w0 A0 w os) (i : Nat) (hi : os[i]? = some (oEn eb vb bb pl n s)) : Wide s.R := by
 obtain ⟨A, H, E, e⟩ := T.get i hi
 exact E.vm.wide
theorem Hp.moreN (T : Hp w0 A0 w os) (i : Nat) (hi : os[i]? = some (oEn eb vb bb pl n s)) (hn : n ≤ n') : Hp w0 A0 w (os.set i (oEn eb vb bb pl n' s)) := T.alter i hi fun A h => oEn_more hn h
theorem Hp.setCpu {C' : CpuS} (T : Hp w0 A0 w os) (i : Nat) (hi : os[i]? = some (oEn eb vb bb pl n s)) (hb : w'.heap[eb]? = some (.cells (envCells C' vb bb) 40)) (hok : C'.ok) (K : Keeps (· = eb) w w') : Hp w0 A0 w' (os.set i (oEn eb vb bb pl n ⟨C', s.R⟩)) := by
 obtain ⟨A, ⟨H, E, e⟩, g⟩ := T.turn i hi
 obtain ⟨A', a', M⟩ := oEn_cpu E e hb hok K
 exact g _ _ _ a' M
theorem oEn_sys (a : Nat) (ha : a < 4294967296) (size : Int) (hn : (n + 2) * 12 ≤ 140737488355328) :
    Acts 63 #[.pointer (some ⟨vb, 0, none⟩), .pointer (some ⟨eb, 0, none⟩), .int .u32 (a : Nat), .int .i64 size] (oEn eb vb bb pl n s) (.tuple #[.int .u32 ((ldOf (sy s.R s.C a size false)).1.1 : Nat), (ldOf (sy s.R s.C a size false)).1.2.val]) (oEn eb vb bb pl (n + 2) ⟨s.C, (ldOf (sy s.R s.C a size false)).2⟩) := by
 rintro w A ⟨H, E, e⟩
 refine (sys_any E.vm E.cpu E.out a ha size hn).mono ?_
 rintro x w' ⟨rfl, H', hV, M⟩
 exact ⟨rfl, oEn_mem E e hV M⟩
theorem oEn_load (seg : Int) (off : Nat) (ho : off < 4294967296) (size : Int) (hn : (n + 2) * 12 ≤ 140737488355328) :
    Acts 49 #[.pointer (some ⟨vb, 0, none⟩), .pointer (some ⟨eb, 0, none⟩), .int .i64 seg, .int .u32 (off : Nat), .int .i64 size] (oEn eb vb bb pl n s) (.tuple #[.int .u32 ((ld s.R s.C seg off size).1.1 : Nat), (ld s.R s.C seg off size).1.2.val]) (oEn eb vb bb pl (n + 2) ⟨s.C, (ld s.R s.C seg off size).2⟩) := by
 rintro w A ⟨H, E, e⟩
 refine (load_any E.vm E.cpu E.out seg off size ho hn).mono ?_
 rintro x w' ⟨rfl, H', hV, M⟩
 exact ⟨rfl, oEn_mem E e hV M⟩
theorem oEn_store (seg : Int) (off : Nat) (ho : off < 4294967296) (size : Int) (v : Nat) (hv : v < 4294967296) (hn : (n + 2) * 12 ≤ 140737488355328) :
    Acts 65 #[.pointer (some ⟨vb, 0, none⟩), .pointer (some ⟨eb, 0, none⟩), .int .i64 seg, .int .u32 (off : Nat), .int .i64 size, .int .u32 (v : Nat)] (oEn eb vb bb pl n s) (st s.R s.C seg off size v).1.val (oEn eb vb bb pl (n + 2) ⟨s.C, (st s.R s.C seg off size v).2⟩) := by
 rintro w A ⟨H, E, e⟩
 refine (store_any E.vm E.cpu E.out seg off size ho v hv hn).mono ?_
 rintro x w' ⟨rfl, H', hV, M⟩
 exact ⟨rfl, oEn_mem E e hV M⟩
end
def Goes {α : Type} (f : FuncId) (args : Array Value) (o : Ob) (r : Except FaultS α × Es) (enc : α → Value) (o' : Es → Ob) : Prop :=
 ∀ w A, o.P w A → Calls Tryz.prog f args w fun e w' => ((∀ a, r.1 = .ok a → e = .returned (enc a)) ∧ (∀ x, r.1 = .error x → e = gaveX x)) ∧ ∃ A', (o' r.2).P w' A' ∧ Moves A A' w w'
section
variable {α : Type} {w0 w : World} {A0 : Nat → Prop} {os : List Ob} {o : Ob} {f : FuncId} {args : Array Value} {r : Except FaultS α × Es} {enc : α → Value} {o' : Es → Ob} {a : α} {x : FaultS} {s1 : Es}
theorem Hp.go_ok (T : Hp w0 A0 w os) (i : Nat) (h : os[i]? = some o) (g : Goes f args o r enc o') (hr : r = (.ok a, s1)) : Calls Tryz.prog f args w fun e w' => e = .returned (enc a) ∧ Hp w0 A0 w' (os.set i (o' s1)) := by
 subst hr
 obtain ⟨C, c, k⟩ := T.turn i h
 refine (g _ C c).mono ?_
 rintro e w' ⟨⟨h1, _⟩, A', a', M⟩
 exact ⟨h1 a rfl, k _ _ _ a' M⟩
theorem Hp.go_no (T : Hp w0 A0 w os) (i : Nat) (h : os[i]? = some o) (g : Goes f args o r enc o') (hr : r = (.error x, s1)) : Calls Tryz.prog f args w fun e w' => e = .panicked [{ v := .iface 141 (.agg #[.int .i64 x.vec, .int .i64 x.cd, .int .u32 (x.cr2 : Nat)]), recovered := false }] ∧ Hp w0 A0 w' (os.set i (o' s1)) := by
 subst hr
 obtain ⟨C, c, k⟩ := T.turn i h
 refine (g _ C c).mono ?_
 rintro e w' ⟨⟨_, h2⟩, A', a', M⟩
 exact ⟨h2 x rfl, k _ _ _ a' M⟩
theorem goes_ok (T : Hp w A0 w0 (o' s1 :: os)) (hr : r = (.ok a, s1)) : ((∀ b, r.1 = .ok b → Ending.returned (enc a) = .returned (enc b)) ∧ (∀ x, r.1 = .error x → Ending.returned (enc a) = gaveX x)) ∧ ∃ A', (o' r.2).P w0 A' ∧ Moves A0 A' w w0 := by
 subst hr
 refine ⟨⟨fun b h => (by cases h; rfl), fun x h => (by cases h)⟩, ?_⟩
 obtain ⟨A, ⟨B, C, b, c, d, e⟩, M⟩ := T
 exact ⟨B, b, M.1, fun k hk => M.2 k ((e k).2 (.inl hk))⟩
theorem goes_no (T : Hp w A0 w0 (o' s1 :: os)) (hr : r = (.error x, s1)) : ((∀ b, r.1 = .ok b → gaveX x = .returned (enc b)) ∧ (∀ y, r.1 = .error y → gaveX x = gaveX y)) ∧ ∃ A', (o' r.2).P w0 A' ∧ Moves A0 A' w w0 := by
 subst hr
 refine ⟨⟨fun b h => (by cases h), fun y h => (by cases h; rfl)⟩, ?_⟩
 obtain ⟨A, ⟨B, C, b, c, d, e⟩, M⟩ := T
 exact ⟨B, b, M.1, fun k hk => M.2 k ((e k).2 (.inl hk))⟩
end
theorem ring_c {w : World} {eb : Nat} {C : CpuS} (hC : CpuAt w eb C) : Calls Tryz.prog 28 #[.pointer (some ⟨eb, 0, none⟩)] w fun e w' => e = .returned (.int .i64 (C.ring : Nat)) ∧ w' = w := by
 obtain ⟨-, -, k1, kl⟩ := hC.cr
 have ha := and_3 (C.seg 1).sel (hC.1.seg 1).sel
 have hb : wrap64 ((C.ring : Nat) : Int) = ((C.ring : Nat) : Int) := IntWalk.wrap64_in _ (by unfold CpuS.ring; omega)
 have hc : ((((C.seg 1).sel % 4 : Nat)) : Int) = ((C.ring : Nat) : Int) := rfl
 rw [hc] at ha
 clear hC hc
 generalize C.ring = R at *
 go_enter Tryz.func28, Tryz.ntmps28
 go_wp2_with fail
 go_ret
 exact ⟨by rw [hb]; rfl, rfl⟩
def SegR.dval (d : SegR) : Value := .agg #[.int .u32 (d.base : Nat), .int .u32 (d.lim : Nat), .int .i64 d.typ, .bool d.sys, .int .i64 d.dpl, .bool d.pre, .bool d.big]
theorem isCode_x (d : SegR) (w : World) : Calls Tryz.prog 31 #[.agg #[.int .u32 (d.base : Nat), .int .u32 (d.lim : Nat), .int .i64 d.typ, .bool d.sys, .int .i64 d.dpl, .bool d.pre, .bool d.big]] w fun e w' => e = .returned (.bool d.isCode) ∧ Below w.heap.size w w' := by
 obtain ⟨sel, nul, base, lim, typ, sys, dpl, pre, big⟩ := d
 have e1 : SegR.isCode ⟨sel, nul, base, lim, typ, sys, dpl, pre, big⟩ = (!sys && tb typ 8 && big) := rfl
 rw [e1]
 show Calls Tryz.prog 31 #[.agg #[.int .u32 (base : Nat), .int .u32 (lim : Nat), .int .i64 typ, .bool sys, .int .i64 dpl, .bool pre, .bool big]] w _
 have e2 : tb typ 8 = (bits .and .i64 typ 8 != 0) := rfl
 cases hs : sys
 ·cases hb : (bits .and .i64 typ 8 != 0) <;> rw [hb] at e2
  all_goals
   have E2 := Lib.hid e2
   clear e2 e1
   go_enter Tryz.func31, Tryz.ntmps31
   go_wp2_with fail
   go_returns
   exact ⟨by rw [E2.out]; simp, (Below.refl _ _).alloc (Nat.le_refl _) _⟩
 ·clear e2 e1
  go_enter Tryz.func31, Tryz.ntmps31
  go_wp2_with fail
  go_returns
  exact ⟨by simp, (Below.refl _ _).alloc (Nat.le_refl _) _⟩
theorem conforms_x (d : SegR) (w : World) : Calls Tryz.prog 32 #[.agg #[.int .u32 (d.base : Nat), .int .u32 (d.lim : Nat), .int .i64 d.typ, .bool d.sys, .int .i64 d.dpl, .bool d.pre, .bool d.big]] w fun e w' => e = .returned (.bool d.conf) ∧ Below w.heap.size w w' := by
 obtain ⟨sel, nul, base, lim, typ, sys, dpl, pre, big⟩ := d
 show Calls Tryz.prog 32 #[.agg #[.int .u32 (base : Nat), .int .u32 (lim : Nat), .int .i64 typ, .bool sys, .int .i64 dpl, .bool pre, .bool big]] w _
 go_enter Tryz.func32, Tryz.ntmps32
 go_wp2_with fail
 go_returns
 exact ⟨rfl, (Below.refl _ _).alloc (Nat.le_refl _) _⟩
theorem isStack_x (d : SegR) (hd : d.sel < 65536) (r : Int) (x : Int) (hx : x = (d.sel : Int)) (w : World) : Calls Tryz.prog 51 #[.int .u16 x, .agg #[.int .u32 (d.base : Nat), .int .u32 (d.lim : Nat), .int .i64 d.typ, .bool d.sys, .int .i64 d.dpl, .bool d.pre, .bool d.big], .int .i64 r] w fun e w' => e = .returned (.bool (d.isStack r)) ∧ Below w.heap.size w w' := by
 subst hx
 obtain ⟨sel, nul, base, lim, typ, sys, dpl, pre, big⟩ := d
 have e1 : SegR.isStack ⟨sel, nul, base, lim, typ, sys, dpl, pre, big⟩ r = (((sel % 4 : Nat) : Int) == r && dpl == r && !sys && (bits .and .i64 typ 10 == 2)) := rfl
 rw [e1]
 show Calls Tryz.prog 51 #[.int .u16 (sel : Int), .agg #[.int .u32 (base : Nat), .int .u32 (lim : Nat), .int .i64 typ, .bool sys, .int .i64 dpl, .bool pre, .bool big], .int .i64 r] w _
 have ha := and_3 sel hd
 have hb : wrap64 ((sel % 4 : Nat) : Int) = ((sel % 4 : Nat) : Int) := IntWalk.wrap64_in _ (by omega)
 clear e1
 have hd2 : Hid (sel < 65536) := Lib.hid hd
 clear hd
 generalize ((sel % 4 : Nat) : Int) = m at *
 cases h1 : (m == r)
 ·go_enter Tryz.func51, Tryz.ntmps51
  go_wp2_with fail
  go_returns
  exact ⟨by simp, (Below.refl _ _).alloc (Nat.le_refl _) _⟩
 ·cases h2 : (dpl == r)
  ·go_enter Tryz.func51, Tryz.ntmps51
   go_wp2_with fail
   go_returns
   exact ⟨by simp, (Below.refl _ _).alloc (Nat.le_refl _) _⟩
  ·cases h3 : sys
   ·cases h4 : (bits .and .i64 typ 10 == 2)
    all_goals
     go_enter Tryz.func51, Tryz.ntmps51
     go_wp2_with fail
     go_returns
     exact ⟨by simp, (Below.refl _ _).alloc (Nat.le_refl _) _⟩
   ·go_enter Tryz.func51, Tryz.ntmps51
    go_wp2_with fail
    go_returns
    exact ⟨by simp, (Below.refl _ _).alloc (Nat.le_refl _) _⟩
end Go.Proofs.YtmpcafdgkbpneaaGreat

/- segment: bit, Parse, and what the awake calls of Fit and Code answer. -/
namespace Go.Proofs.YtmpcafdgkbpneaaGreat
open Go.RowKit

theorem bit_any (n k : Int) (w : World) (h0 : 0 ≤ n) (h1 : n < 4294967296) (h2 : 0 ≤ k) (_h3 : k < 32) :
    Calls Tryz.prog 138 #[.int .u32 n, .int .u64 k] w fun e w' => e = .returned (.bool (hbit n k)) ∧ w = w' := by
 have H := Lib.hid (hbit_eq n h0 h1 k)
 go_enter Tryz.func138, Tryz.ntmps138
 go_wp2
 go_ret
 exact ⟨by rw [← H.out]; rfl, rfl⟩

theorem parse_any (lo hi : Int) (w : World) (h0 : 0 ≤ lo) (h1 : lo < 4294967296) (h2 : 0 ≤ hi) (h3 : hi < 4294967296) :
    Calls Tryz.prog 64 #[.int .u32 lo, .int .u32 hi] w fun e w' =>
     e = .returned (.agg #[.int .u32 (pBase lo hi), .int .u32 (pLimit lo hi), .int .i64 (pTy hi), .bool (!hbit hi 12), .int .i64 (pDpl hi), .bool (hbit hi 15), .bool (hbit hi 22)]) ∧
     Below w.heap.size w w' := by
 have L0 := Lib.hid (lim0_eq lo hi h0 h1 h2 h3)
 have L1 := Lib.hid (lim1_eq lo hi)
 have LB := Lib.hid (base_eq lo hi h0 h1 h2 h3)
 have LT := Lib.hid (ty_eq hi h2 h3)
 have LD := Lib.hid (dpl_eq hi h2 h3)
 cases h23 : hbit hi 23
 all_goals
  have H23 := Lib.hid h23
  clear h23
  go_enter Tryz.func64, Tryz.ntmps64
  go_wp2_with fail
  refine (bit_any _ _ _ (by omega) (by omega) (by omega) (by omega)).mono ?_
  rintro e w1 ⟨rfl, rfl⟩
  rw [H23.out]
  go_wp2_with (go_at_call 138; refine (bit_any _ _ _ (by omega) (by omega) (by omega) (by omega)).mono ?_; rintro e w1 ⟨rfl, rfl⟩)
  go_returns
  refine ⟨?_, by go_grown⟩
  rw [LB.out, LT.out, LD.out, L0.out]
  first | (rw [L1.out]; simp [pLimit, H23.out]; done) | (simp [pLimit, H23.out]; done)

end Go.Proofs.YtmpcafdgkbpneaaGreat

