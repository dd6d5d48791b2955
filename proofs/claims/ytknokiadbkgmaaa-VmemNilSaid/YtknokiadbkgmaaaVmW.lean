/- vmem: up to three objects, and boxes with what they hold. -/
import Derived.Test.YtknokiadbkgmaaaVmT
namespace Go.Proofs.Ytknokiadbkgmaaa
open Go.RowKit Go.MapKept
set_option linter.unusedVariables false

/-- Boxes made since w, and what they hold. -/
def NB (w W : World) (L : List (Nat × Obj)) : Prop := Below w.heap.size w W ∧ ∀ p ∈ L, W.heap[p.1]? = some p.2 ∧ w.heap.size ≤ p.1
section
variable {w W W' : World} {L : List (Nat × Obj)}
theorem NB.start (w : World) : NB w w [] := ⟨Below.refl _ _, fun p h => by cases h⟩
theorem NB.below (h : NB w W L) (hb : Below W.heap.size W W') : NB w W' L :=
  ⟨step_below h.1 hb (Nat.le_refl _), fun p hp => ⟨heap_below hb (h.2 p hp).1, (h.2 p hp).2⟩⟩
theorem NB.alloc (h : NB w W L) (o : Obj) : NB w (W.alloc o) ((W.heap.size, o) :: L) := by
  refine ⟨h.1.alloc h.1.size o, fun p hp => ?_⟩
  rcases List.mem_cons.1 hp with rfl | hp
  · exact ⟨heap_new W o, h.1.size⟩
  · exact ⟨heap_alloc_lt (h.2 p hp).1, (h.2 p hp).2⟩
theorem NB.get (h : NB w W L) {g : Nat} {o : Obj} (hm : (g, o) ∈ L) : W.heap[g]? = some o := (h.2 _ hm).1
theorem NB.same (h : NB w W L) {g : Nat} {o : Obj} (hm : (g, o) ∈ L) (hk : Keeps (· = g) W W') (ho : W'.heap[g]? = some o) : NB w W' L := by
  refine ⟨Keeps.toBelow h.1 hk h.1.size (fun i e => by rw [e]; exact (h.2 _ hm).2), fun p hp => ⟨?_, (h.2 p hp).2⟩⟩
  by_cases e : p.1 = g
  · have h1 := (h.2 p hp).1
    have h2 := (h.2 _ hm).1
    rw [e, h2] at h1
    rw [e, ho]; exact h1
  · exact (hk.block p.1 (heap_lt (h.2 p hp).1) e).trans (h.2 p hp).1
/-- A box is written to. -/
theorem NB.put (h : NB w W L) {g : Nat} {o' : Obj} (hg : w.heap.size ≤ g) (hk : Keeps (· = g) W W') (ho : W'.heap[g]? = some o') {L' : List (Nat × Obj)} (hL : ∀ p ∈ L', p = (g, o') ∨ (p.1 ≠ g ∧ p ∈ L)) : NB w W' L' := by
  refine ⟨Keeps.toBelow h.1 hk h.1.size (fun i e => by rw [e]; exact hg), fun p hp => ?_⟩
  rcases hL p hp with rfl | ⟨e, hp⟩
  · exact ⟨ho, hg⟩
  · exact ⟨(hk.block p.1 (heap_lt (h.2 p hp).1) e).trans (h.2 p hp).1, (h.2 p hp).2⟩
theorem keeps_setRow (W : World) (g : Nat) (cs : Array Value) : Keeps (· = g) W (W.setRow g cs) where
  os := rfl
  tape := rfl
  output := rfl
  size := by simp
  block := fun k hk hn => setRow_other W g k cs hn
theorem NB.setRow (h : NB w W L) (cs : Array Value) {old : Array Value} {T : TypeId} {g : Nat} (hm : (g, .cells old T (0, 0)) ∈ L) {L' : List (Nat × Obj)} (hL : ∀ p ∈ L', p = (g, .cells cs T (0, 0)) ∨ (p.1 ≠ g ∧ p ∈ L)) : NB w (W.setRow g cs) L' :=
  h.put (h.2 _ hm).2 (keeps_setRow W g cs) (setRow_heap W g old cs T (0, 0) (h.get hm)) hL
end
def cpuO (C : CpuS) : Obj := .cells C.cells.toArray 38
def faultO (a b : Int) (c : Nat) : Obj := .cells #[.int .i64 a, .int .i64 b, .int .u32 (c : Nat)] 25
/-- Three objects, and boxes with what they hold. -/
def TB (w0 w : World) (PA PB PC : World → (Nat → Prop) → Prop) (L : List (Nat × Obj)) : Prop := Tri w0 w PA PB PC (fun k => ∃ o, (k, o) ∈ L) w ∧ ∀ p ∈ L, w.heap[p.1]? = some p.2
section
variable {w0 w w' wF : World} {PA PA' PB PC : World → (Nat → Prop) → Prop} {L : List (Nat × Obj)} {vb cb places n : Nat} {R R' : RS} {C : CpuS}
theorem TB.get (T : TB w0 w PA PB PC L) {g : Nat} {o : Obj} (hm : (g, o) ∈ L) : w.heap[g]? = some o := T.2 _ hm
theorem TB.after (T : TB w0 w PA PB PC L) (T' : Tri w0 w' PA' PB PC (fun k => ∃ o, (k, o) ∈ L) w) : TB w0 w' PA' PB PC L := by
  have h : ∀ p ∈ L, w'.heap[p.1]? = some p.2 := fun p hp => (T'.box ⟨p.2, hp⟩).trans (T.2 p hp)
  refine ⟨?_, h⟩
  obtain ⟨A, B, D, s, a, b, c, g⟩ := T'
  exact ⟨A, B, D, s, a, b, c, fun k hk => ⟨(g k hk).1, (g k hk).2.1, (g k hk).2.2.1, (g k hk).2.2.2.1, (g k hk).2.2.2.2.1, rfl⟩⟩
theorem TB.rot (T : TB w0 w PA PB PC L) : TB w0 w PB PC PA L := ⟨T.1.rot, T.2⟩
theorem TB.below (T : TB w0 w PA PB PC L) (LA : Local PA) (LB : Local PB) (LC : Local PC) (hb : Below w.heap.size w w') : TB w0 w' PA PB PC L := T.after (T.1.below LA LB LC hb)
theorem TB.alloc (T : TB w0 w PA PB PC L) (LA : Local PA) (LB : Local PB) (LC : Local PC) (o : Obj) : TB w0 (w.alloc o) PA PB PC ((w.heap.size, o) :: L) := by
  refine ⟨T.1.boxes LA LB LC ((Below.refl _ _).alloc (Nat.le_refl _) o) (fun k h => ?_), fun p hp => ?_⟩
  · obtain ⟨x, hx⟩ := h
    rcases List.mem_cons.1 hx with e | hx
    · have : k = w.heap.size := (Prod.mk.inj e).1
      exact .inr ⟨by omega, by simp; omega⟩
    · exact .inl ⟨x, hx⟩
  · rcases List.mem_cons.1 hp with rfl | hp
    · exact heap_new w o
    · exact heap_alloc_lt (T.2 p hp)
theorem TB.ofNB (h : NB w0 w L) : TB w0 w Nothing Nothing Nothing L :=
  ⟨⟨none_, none_, none_, ⟨fun _ h => h.elim, fun _ h => h.elim, fun _ h => h.elim, fun _ h => h.elim, fun _ h => h.elim, fun _ h => h.elim, fun _ h => h.elim, fun _ h => h.elim, fun _ h => h.elim, h.1⟩, fun _ h => h, fun _ h => h, fun _ h => h, fun k hk => by
    obtain ⟨o, ho⟩ := hk
    exact ⟨heap_lt (h.2 _ ho).1, fun h => h, fun h => h, fun h => h, (h.2 _ ho).2, rfl⟩⟩, fun p hp => (h.2 p hp).1⟩
theorem TB.both {b b' : Nat} {S S' : Nat → Prop} (T : TB w0 w Nothing PB PC L) (LB : Local PB) (LC : Local PC) (h : Two w w' b S R b' S' R) : TB w0 w' (fun w S => Ram w b S R) PB PC L := T.after (tri_more T.1 LB LC h)
theorem TB.vnew {b : Nat} (T : TB w0 w (fun w S => Ram w b S R) PB PC L) (LB : Local PB) (LC : Local PC) (hw : Wide R) (m : Nat) (hm : m ≤ 64) (x : Int) (hx : x = (m : Int)) : Calls Try.prog 12 #[.pointer (some ⟨b, 0, none⟩), .int .i64 x] w fun e w' =>
    ∃ vb, e = .returned (.tuple #[.pointer (some ⟨vb, 0, none⟩), .int .i64 0]) ∧ TB w0 w' (VmO vb m 0 R) PB PC L :=
  (tri_vnew T.1 LB LC hw m hm x hx).mono fun e w' ⟨vb, he, T'⟩ => ⟨vb, he, T.after T'⟩
theorem TB.cpu (T : TB w0 w PA PB PC L) (hm : (cb, cpuO C) ∈ L) (ok : C.ok) : CpuAt w cb C := CpuAt.of_block ok (T.get hm)
theorem RamP_local (b : Nat) (R : RS) : Local (fun w S => Ram w b S R) := fun w w' S h e => Ram.of_heap h e
theorem TB.load (T : TB w0 w (VmO vb places n R) PB PC L) (LB : Local PB) (LC : Local PC) (hm : (cb, cpuO C) ∈ L) (ok : C.ok) (seg : Int) (off : Nat) (size : Int) (ho : off < 4294967296) (hnb : (n + 2) * 12 ≤ 140737488355328) {v : Nat} {f : FaultS} (hr : ld R C seg off size = ((v, f), R')) :
    Calls Try.prog 13 #[.pointer (some ⟨vb, 0, none⟩), .pointer (some ⟨cb, 0, none⟩), .int .i64 seg, .int .u32 (off : Nat), .int .i64 size] w fun e w' => e = .returned (.tuple #[.int .u32 (v : Nat), .agg #[.int .i64 f.vec, .int .i64 f.cd, .int .u32 (f.cr2 : Nat)]]) ∧ TB w0 w' (VmO vb places (n + 2) R') PB PC L :=
  (tri_load T.1 LB LC ⟨_, hm⟩ (T.cpu hm ok) seg off size ho hnb hr).mono fun e w' ⟨he, T'⟩ => ⟨he, T.after T'⟩
theorem TB.store (T : TB w0 w (VmO vb places n R) PB PC L) (LB : Local PB) (LC : Local PC) (hm : (cb, cpuO C) ∈ L) (ok : C.ok) (seg : Int) (off : Nat) (size : Int) (ho : off < 4294967296) (v : Nat) (hv : v < 4294967296) (hnb : (n + 2) * 12 ≤ 140737488355328) {f : FaultS} (hr : st R C seg off size v = (f, R')) :
    Calls Try.prog 15 #[.pointer (some ⟨vb, 0, none⟩), .pointer (some ⟨cb, 0, none⟩), .int .i64 seg, .int .u32 (off : Nat), .int .i64 size, .int .u32 (v : Nat)] w fun e w' => e = .returned (.agg #[.int .i64 f.vec, .int .i64 f.cd, .int .u32 (f.cr2 : Nat)]) ∧ TB w0 w' (VmO vb places (n + 2) R') PB PC L :=
  (tri_store T.1 LB LC ⟨_, hm⟩ (T.cpu hm ok) seg off size ho v hv hnb hr).mono fun e w' ⟨he, T'⟩ => ⟨he, T.after T'⟩
theorem TB.check (T : TB w0 w (VmO vb places n R) PB PC L) (LB : Local PB) (LC : Local PC) (hm : (cb, cpuO C) ∈ L) (ok : C.ok) (seg : Int) (off : Nat) (size : Int) (ho : off < 4294967296) (hnb : (n + 2) * 12 ≤ 140737488355328) {f : FaultS} (hr : ck R C seg off size = (f, R')) :
    Calls Try.prog 18 #[.pointer (some ⟨vb, 0, none⟩), .pointer (some ⟨cb, 0, none⟩), .int .i64 seg, .int .u32 (off : Nat), .int .i64 size] w fun e w' => e = .returned (.agg #[.int .i64 f.vec, .int .i64 f.cd, .int .u32 (f.cr2 : Nat)]) ∧ TB w0 w' (VmO vb places (n + 2) R') PB PC L :=
  (tri_check T.1 LB LC ⟨_, hm⟩ (T.cpu hm ok) seg off size ho hnb hr).mono fun e w' ⟨he, T'⟩ => ⟨he, T.after T'⟩
theorem TB.sys (T : TB w0 w (VmO vb places n R) PB PC L) (LB : Local PB) (LC : Local PC) (hm : (cb, cpuO C) ∈ L) (ok : C.ok) (lin : Nat) (size : Int) (hl : lin < 4294967296) (hnb : (n + 2) * 12 ≤ 140737488355328) {v : Nat} {f : FaultS} (hr : ldOf (sy R C lin size false) = ((v, f), R')) :
    Calls Try.prog 17 #[.pointer (some ⟨vb, 0, none⟩), .pointer (some ⟨cb, 0, none⟩), .int .u32 (lin : Nat), .int .i64 size] w fun e w' => e = .returned (.tuple #[.int .u32 (v : Nat), .agg #[.int .i64 f.vec, .int .i64 f.cd, .int .u32 (f.cr2 : Nat)]]) ∧ TB w0 w' (VmO vb places (n + 2) R') PB PC L :=
  (tri_sys T.1 LB LC ⟨_, hm⟩ (T.cpu hm ok) lin size hl hnb hr).mono fun e w' ⟨he, T'⟩ => ⟨he, T.after T'⟩
theorem TB.setsys (T : TB w0 w (VmO vb places n R) PB PC L) (LB : Local PB) (LC : Local PC) (hm : (cb, cpuO C) ∈ L) (ok : C.ok) (lin : Nat) (size : Int) (hl : lin < 4294967296) (v : Nat) (hv : v < 4294967296) (hnb : (n + 2) * 12 ≤ 140737488355328) {f : FaultS} (hr : stOf v (sy R C lin size true) = (f, R')) :
    Calls Try.prog 16 #[.pointer (some ⟨vb, 0, none⟩), .pointer (some ⟨cb, 0, none⟩), .int .u32 (lin : Nat), .int .i64 size, .int .u32 (v : Nat)] w fun e w' => e = .returned (.agg #[.int .i64 f.vec, .int .i64 f.cd, .int .u32 (f.cr2 : Nat)]) ∧ TB w0 w' (VmO vb places (n + 2) R') PB PC L :=
  (tri_setsys T.1 LB LC ⟨_, hm⟩ (T.cpu hm ok) lin size hl v hv hnb hr).mono fun e w' ⟨he, T'⟩ => ⟨he, T.after T'⟩
theorem TB.code (T : TB w0 w (VmO vb places n R) PB PC L) (LB : Local PB) (LC : Local PC) (hm : (cb, cpuO C) ∈ L) (ok : C.ok) (off : Nat) (ho : off < 4294967296) (hnb : (n + 2) * 12 ≤ 140737488355328) {v a : Nat} {f : FaultS} (hr : cdr R C off = ((v, a, f), R')) :
    Calls Try.prog 14 #[.pointer (some ⟨vb, 0, none⟩), .pointer (some ⟨cb, 0, none⟩), .int .u32 (off : Nat)] w fun e w' => e = .returned (.tuple #[.int .u8 (v : Nat), .int .u32 (a : Nat), .agg #[.int .i64 f.vec, .int .i64 f.cd, .int .u32 (f.cr2 : Nat)]]) ∧ TB w0 w' (VmO vb places (n + 2) R') PB PC L :=
  (tri_code T.1 LB LC ⟨_, hm⟩ (T.cpu hm ok) off ho hnb hr).mono fun e w' ⟨he, T'⟩ => ⟨he, T.after T'⟩
end
end Go.Proofs.Ytknokiadbkgmaaa
