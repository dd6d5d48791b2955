/- vmem: one of up to three objects, and boxes; the head of all statements. -/
import Derived.Test.YtknokiadbkgmaaaVmQ
import Derived.Test.YtknokiadbkgmaaaVmS
import Derived.Test.YtknokiadbkgmaaaTri
namespace Go.Proofs.Ytknokiadbkgmaaa
open Go.RowKit Go.MapKept
set_option linter.unusedVariables false

def VmO (vb places n : Nat) (R : RS) : World → (Nat → Prop) → Prop := fun w H => Vm w vb places n H R
theorem VmO.local (vb places n : Nat) (R : RS) : Local (VmO vb places n R) := fun w w' H h e => Vm.of_heap h e
section
variable {w0 w w' wF : World} {PB PC : World → (Nat → Prop) → Prop} {F : Nat → Prop} {vb cb places n : Nat} {R R' : RS} {C : CpuS}
theorem Tri.cpu {PA : World → (Nat → Prop) → Prop} (T : Tri w0 w PA PB PC F wF) (hF : F cb) (hC : CpuAt wF cb C) : CpuAt w cb C := hC.of_heap (T.box hF)
theorem tri_vm {f : FuncId} {args : Array Value} {Qe : Ending → Prop} (T : Tri w0 w (VmO vb places n R) PB PC F wF) (LB : Local PB) (LC : Local PC) (hF : F cb) (hC : CpuAt wF cb C)
    (h : ∀ H, Vm w vb places n H R → CpuAt w cb C → ¬ H cb → Calls Try.prog f args w fun e w' => Qe e ∧ ∃ H', Vm w' vb places (n + 2) H' R' ∧ Moves H H' w w') :
    Calls Try.prog f args w fun e w' => Qe e ∧ Tri w0 w' (VmO vb places (n + 2) R') PB PC F wF := by
  have hcpu := T.cpu hF hC
  obtain ⟨A, B, D, s, a, b, c, g⟩ := T
  refine (h A a hcpu (g cb hF).2.1).mono ?_
  rintro e w' ⟨hq, A', a', M⟩
  have hl : ∀ k, A' k → k < w'.heap.size := a'.lt
  refine ⟨hq, A', B, D, s.move M hl, a', LB _ _ _ b fun k h => s.same_b M h, LC _ _ _ c fun k h => s.same_c M h, fun k h => ?_⟩
  obtain ⟨h1, h2, h3, h4, h6, h5⟩ := g k h
  refine ⟨Nat.lt_of_lt_of_le h1 M.1.size, fun h => ?_, h3, h4, h6, (M.1.block k h1 h2).trans h5⟩
  rcases M.2 k h with h | h
  · exact h2 h
  · omega
theorem tri_load (T : Tri w0 w (VmO vb places n R) PB PC F wF) (LB : Local PB) (LC : Local PC) (hF : F cb) (hC : CpuAt wF cb C) (seg : Int) (off : Nat) (size : Int) (ho : off < 4294967296) (hnb : (n + 2) * 12 ≤ 140737488355328) {v : Nat} {f : FaultS} (hr : ld R C seg off size = ((v, f), R')) :
    Calls Try.prog 13 #[.pointer (some ⟨vb, 0, none⟩), .pointer (some ⟨cb, 0, none⟩), .int .i64 seg, .int .u32 (off : Nat), .int .i64 size] w fun e w' => e = .returned (.tuple #[.int .u32 (v : Nat), .agg #[.int .i64 f.vec, .int .i64 f.cd, .int .u32 (f.cr2 : Nat)]]) ∧ Tri w0 w' (VmO vb places (n + 2) R') PB PC F wF :=
  tri_vm (Qe := fun e => e = .returned (.tuple #[.int .u32 (v : Nat), .agg #[.int .i64 f.vec, .int .i64 f.cd, .int .u32 (f.cr2 : Nat)]])) T LB LC hF hC fun H hV hCw hcb => (load_any hV hCw hcb seg off size ho hnb).mono fun e w' h => by rw [hr] at h; exact h
theorem tri_store (T : Tri w0 w (VmO vb places n R) PB PC F wF) (LB : Local PB) (LC : Local PC) (hF : F cb) (hC : CpuAt wF cb C) (seg : Int) (off : Nat) (size : Int) (ho : off < 4294967296) (v : Nat) (hv : v < 4294967296) (hnb : (n + 2) * 12 ≤ 140737488355328) {f : FaultS} (hr : st R C seg off size v = (f, R')) :
    Calls Try.prog 15 #[.pointer (some ⟨vb, 0, none⟩), .pointer (some ⟨cb, 0, none⟩), .int .i64 seg, .int .u32 (off : Nat), .int .i64 size, .int .u32 (v : Nat)] w fun e w' => e = .returned (.agg #[.int .i64 f.vec, .int .i64 f.cd, .int .u32 (f.cr2 : Nat)]) ∧ Tri w0 w' (VmO vb places (n + 2) R') PB PC F wF :=
  tri_vm (Qe := fun e => e = .returned (.agg #[.int .i64 f.vec, .int .i64 f.cd, .int .u32 (f.cr2 : Nat)])) T LB LC hF hC fun H hV hCw hcb => (store_any hV hCw hcb seg off size ho v hv hnb).mono fun e w' h => by rw [hr] at h; exact h
theorem tri_check (T : Tri w0 w (VmO vb places n R) PB PC F wF) (LB : Local PB) (LC : Local PC) (hF : F cb) (hC : CpuAt wF cb C) (seg : Int) (off : Nat) (size : Int) (ho : off < 4294967296) (hnb : (n + 2) * 12 ≤ 140737488355328) {f : FaultS} (hr : ck R C seg off size = (f, R')) :
    Calls Try.prog 18 #[.pointer (some ⟨vb, 0, none⟩), .pointer (some ⟨cb, 0, none⟩), .int .i64 seg, .int .u32 (off : Nat), .int .i64 size] w fun e w' => e = .returned (.agg #[.int .i64 f.vec, .int .i64 f.cd, .int .u32 (f.cr2 : Nat)]) ∧ Tri w0 w' (VmO vb places (n + 2) R') PB PC F wF :=
  tri_vm (Qe := fun e => e = .returned (.agg #[.int .i64 f.vec, .int .i64 f.cd, .int .u32 (f.cr2 : Nat)])) T LB LC hF hC fun H hV hCw hcb => (check_any hV hCw hcb seg off size ho hnb).mono fun e w' h => by rw [hr] at h; exact h
theorem tri_sys (T : Tri w0 w (VmO vb places n R) PB PC F wF) (LB : Local PB) (LC : Local PC) (hF : F cb) (hC : CpuAt wF cb C) (lin : Nat) (size : Int) (hl : lin < 4294967296) (hnb : (n + 2) * 12 ≤ 140737488355328) {v : Nat} {f : FaultS} (hr : ldOf (sy R C lin size false) = ((v, f), R')) :
    Calls Try.prog 17 #[.pointer (some ⟨vb, 0, none⟩), .pointer (some ⟨cb, 0, none⟩), .int .u32 (lin : Nat), .int .i64 size] w fun e w' => e = .returned (.tuple #[.int .u32 (v : Nat), .agg #[.int .i64 f.vec, .int .i64 f.cd, .int .u32 (f.cr2 : Nat)]]) ∧ Tri w0 w' (VmO vb places (n + 2) R') PB PC F wF :=
  tri_vm (Qe := fun e => e = .returned (.tuple #[.int .u32 (v : Nat), .agg #[.int .i64 f.vec, .int .i64 f.cd, .int .u32 (f.cr2 : Nat)]])) T LB LC hF hC fun H hV hCw hcb => (sys_any hV hCw hcb lin hl size hnb).mono fun e w' h => by rw [hr] at h; exact h
theorem tri_setsys (T : Tri w0 w (VmO vb places n R) PB PC F wF) (LB : Local PB) (LC : Local PC) (hF : F cb) (hC : CpuAt wF cb C) (lin : Nat) (size : Int) (hl : lin < 4294967296) (v : Nat) (hv : v < 4294967296) (hnb : (n + 2) * 12 ≤ 140737488355328) {f : FaultS} (hr : stOf v (sy R C lin size true) = (f, R')) :
    Calls Try.prog 16 #[.pointer (some ⟨vb, 0, none⟩), .pointer (some ⟨cb, 0, none⟩), .int .u32 (lin : Nat), .int .i64 size, .int .u32 (v : Nat)] w fun e w' => e = .returned (.agg #[.int .i64 f.vec, .int .i64 f.cd, .int .u32 (f.cr2 : Nat)]) ∧ Tri w0 w' (VmO vb places (n + 2) R') PB PC F wF :=
  tri_vm (Qe := fun e => e = .returned (.agg #[.int .i64 f.vec, .int .i64 f.cd, .int .u32 (f.cr2 : Nat)])) T LB LC hF hC fun H hV hCw hcb => (setsys_any hV hCw hcb lin hl size v hv hnb).mono fun e w' h => by rw [hr] at h; exact h
theorem tri_code (T : Tri w0 w (VmO vb places n R) PB PC F wF) (LB : Local PB) (LC : Local PC) (hF : F cb) (hC : CpuAt wF cb C) (off : Nat) (ho : off < 4294967296) (hnb : (n + 2) * 12 ≤ 140737488355328) {v a : Nat} {f : FaultS} (hr : cdr R C off = ((v, a, f), R')) :
    Calls Try.prog 14 #[.pointer (some ⟨vb, 0, none⟩), .pointer (some ⟨cb, 0, none⟩), .int .u32 (off : Nat)] w fun e w' => e = .returned (.tuple #[.int .u8 (v : Nat), .int .u32 (a : Nat), .agg #[.int .i64 f.vec, .int .i64 f.cd, .int .u32 (f.cr2 : Nat)]]) ∧ Tri w0 w' (VmO vb places (n + 2) R') PB PC F wF :=
  tri_vm (Qe := fun e => e = .returned (.tuple #[.int .u8 (v : Nat), .int .u32 (a : Nat), .agg #[.int .i64 f.vec, .int .i64 f.cd, .int .u32 (f.cr2 : Nat)]])) T LB LC hF hC fun H hV hCw hcb => (code_any hV hCw hcb off ho hnb).mono fun e w' h => by rw [hr] at h; exact h
theorem tri_vnew {b : Nat} (T : Tri w0 w (fun w S => Ram w b S R) PB PC F wF) (LB : Local PB) (LC : Local PC) (hw : Wide R) (m : Nat) (hm : m ≤ 64) (x : Int) (hx : x = (m : Int)) : Calls Try.prog 12 #[.pointer (some ⟨b, 0, none⟩), .int .i64 x] w fun e w' =>
    ∃ vb, e = .returned (.tuple #[.pointer (some ⟨vb, 0, none⟩), .int .i64 0]) ∧ Tri w0 w' (VmO vb m 0 R) PB PC F wF := by
  obtain ⟨A, B, D, s, a, bb, c, g⟩ := T
  refine (vnew_any a hw m hm x hx).mono ?_
  rintro e w' ⟨vb, A', he, a', M⟩
  have hl : ∀ k, A' k → k < w'.heap.size := a'.lt
  refine ⟨vb, he, A', B, D, s.move M hl, a', LB _ _ _ bb fun k h => s.same_b M h, LC _ _ _ c fun k h => s.same_c M h, fun k h => ?_⟩
  obtain ⟨h1, h2, h3, h4, h6, h5⟩ := g k h
  refine ⟨Nat.lt_of_lt_of_le h1 M.1.size, fun h => ?_, h3, h4, h6, (M.1.block k h1 h2).trans h5⟩
  rcases M.2 k h with h | h
  · exact h2 h
  · omega
/-- A new box. -/
theorem tri_box {PA : World → (Nat → Prop) → Prop} (T : Tri w0 w PA PB PC F wF) (LA : Local PA) (LB : Local PB) (LC : Local PC) (o : Obj) : Tri w0 (w.alloc o) PA PB PC (fun k => F k ∨ k = w.heap.size) (w.alloc o) :=
  T.boxes LA LB LC ((Below.refl _ _).alloc (Nat.le_refl _) o) fun k h => h.imp id fun h => ⟨by omega, by simp; omega⟩
/-- A memory of a pair that law09 made, as the first of three. -/
theorem tri_two {b b' : Nat} {S S' : Nat → Prop} (h : Two w w' b S R b' S' R) : Tri w w' (fun w S => Ram w b S R) Nothing Nothing none_ w' :=
  ⟨S, none_, none_, ⟨fun _ _ h => h, fun _ h => h.elim, fun _ h => h.elim, h.l1, fun _ h => h.elim, fun _ h => h.elim, fun k hk => h.m.lt hk, fun _ h => h.elim, fun _ h => h.elim, h.B⟩, h.m, fun _ h => h, fun _ h => h, fun _ h => h.elim⟩
/-- A further one. -/
theorem tri_more {b b' : Nat} {S S' : Nat → Prop} {R2 : RS} (T : Tri w0 w Nothing PB PC F wF) (LB : Local PB) (LC : Local PC) (h : Two w w' b S R2 b' S' R2) : Tri w0 w' (fun w S => Ram w b S R2) PB PC F wF :=
  T.new LB LC h.B h.m fun k hk => ⟨h.l1 k hk, h.m.lt hk⟩
end
theorem z32 : (0 : Nat) < 4294967296 := by decide
theorem z16 : (0 : Nat) < 65536 := by decide
theorem zi : (-9223372036854775808 : Int) ≤ 0 ∧ (0 : Int) ≤ 9223372036854775807 := by decide
theorem noSeg_ok : noSeg.ok := ⟨z16, z32, z32, zi, zi⟩
theorem flatSeg_ok (s : Nat) (t k : Int) (hs : s < 65536) (ht : -9223372036854775808 ≤ t ∧ t ≤ 9223372036854775807) (hk : -9223372036854775808 ≤ k ∧ k ≤ 9223372036854775807) : (flatSeg s t k).ok := ⟨hs, z32, (show (4294967295 : Nat) < 4294967296 by decide), ht, hk⟩
theorem flat_ok (k : Int) (h1 : -4 < k) (h2 : k < 4) : (flatC k).ok := by
  have hs : ∀ i, ((flatC k).seg i).ok := fun i => by
    show (if i = 1 then flatSeg ((8 + k) % 65536).toNat 10 k else flatSeg ((16 + k) % 65536).toNat 2 k).ok
    split
    · exact flatSeg_ok _ _ _ (by omega) (by decide) (by omega)
    · exact flatSeg_ok _ _ _ (by omega) (by decide) (by omega)
  exact ⟨fun i => z32, z32, (show (2 : Nat) < 4294967296 by decide), hs, (show (1 : Nat) < 4294967296 by decide), z32, z32, z32, z16, z32, z16, noSeg_ok⟩
theorem CpuAt.of_block {w : World} {b : Nat} {C : CpuS} {T : TypeId} (ok : C.ok) (h : w.heap[b]? = some (.cells C.cells.toArray T (0, 0))) : CpuAt w b C := ⟨ok, [], T, by rw [List.append_nil]; exact h⟩
end Go.Proofs.Ytknokiadbkgmaaa
