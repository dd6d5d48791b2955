/- Steps of a proof: ExF, ExEa, together. -/
import Derived.Test.YtmpcafdgkbpneaaGreatS14
import Derived.Recover
import Derived.Deep.WholeRow
/- except: an environment with boxes beside it; what is tried, and what comes of a fault there. -/
set_option maxHeartbeats 4000000
set_option maxRecDepth 20000
namespace Go.Proofs.YtmpcafdgkbpneaaGreat
open Go.RowKit Go.MapKept
set_option linter.unusedVariables false
attribute [local go_sem ↓] Go.wp_at_zero Go.wp_at_succ

theorem laid_heap (b : Nat) : ∀ (vs : List Value) (o : Nat) (w : World) (cs : Array Value) (t : TypeId), w.heap[b]? = some (.cells cs t) → o + vs.length ≤ cs.size →
    (w.setCells b o vs).heap[b]? = some (.cells (cs.toList.take o ++ vs ++ cs.toList.drop (o + vs.length)).toArray t)
 | [], o, w, cs, t, h, _ => by rw [World.setCells, h]; simp
 | v :: r, o, w, cs, t, h, hl => by
  rw [World.setCells]
  rw [List.length_cons] at hl
  rw [laid_heap b r (o + 1) (w.setCell ⟨b, o, none⟩ v) (cs.setIfInBounds o v) t (by rw [heap_set_map, h]; rfl) (by rw [Array.size_setIfInBounds]; omega)]
  congr 2
  apply Array.ext_getElem?
  intro i
  simp only [List.getElem?_toArray, Array.toList_setIfInBounds]
  have hsz : o < cs.toList.length := by rw [Array.length_toList]; omega
  rw [List.take_set, List.drop_set_of_lt (by omega), List.take_succ_eq_append_getElem hsz, List.length_cons, show o + 1 + r.length = o + (r.length + 1) by omega, List.set_append_right _ _ (by rw [List.length_take]; omega), List.length_take, Nat.min_eq_left (by omega), Nat.sub_self]
  simp
theorem laid_keeps (b : Nat) : ∀ (vs : List Value) (o : Nat) (a w : World), Keeps (· = b) a w → Keeps (· = b) a (w.setCells b o vs)
 | [], _, _, _, h => h
 | v :: r, o, a, w, h => by rw [World.setCells]; exact laid_keeps b r (o + 1) a _ (h.setOne o v)
def oEs (eb vb bb : Nat) (pl : Pl) (n : Nat) (bs : List Ob) (s : Es) : Ob := Ob.all (oEn eb vb bb pl n s :: bs)
section
variable {w w' w0 : World} {A A0 : Nat → Prop} {os bs : List Ob} {eb vb bb : Nat} {pl : Pl} {n n' : Nat} {s s' : Es}
theorem Hp.within (T : Hp w0 A0 w os) (i : Nat) {l l' : List Ob} (h : os[i]? = some (Ob.all l)) (g : ∀ A, Hp w A w l → Hp w A w' l') : Hp w0 A0 w' (os.set i (Ob.all l')) := by
 obtain ⟨A, a, k⟩ := T.turn i h
 obtain ⟨A', a', M⟩ := g A ⟨A, a, Moves.refl _ _⟩
 exact k _ _ _ a' M
theorem Hp.inside (T : Hp w0 A0 w os) (i : Nat) {l : List Ob} (h : os[i]? = some (Ob.all l)) : ∃ A, Hp w A w l := by
 obtain ⟨A, a⟩ := T.get i h
 exact ⟨A, A, a, Moves.refl _ _⟩
theorem Hp.es (T : Hp w0 A0 w os) (i : Nat) (hi : os[i]? = some (oEs eb vb bb pl n bs s)) : w.cell? ⟨eb, 83, none⟩ = some (.pointer (some ⟨vb, 0, none⟩)) ∧ w.cell? ⟨eb, 84, none⟩ = some (.pointer (some ⟨bb, 0, none⟩)) ∧ eb < w.heap.size := by
 obtain ⟨A, U⟩ := T.inside i hi
 exact U.en 0 rfl
theorem Hp.ecpu (T : Hp w0 A0 w os) (i : Nat) (hi : os[i]? = some (oEs eb vb bb pl n bs s)) : CpuAt w eb s.C := by
 obtain ⟨A, U⟩ := T.inside i hi
 exact U.cpu 0 rfl
theorem Hp.eheap (T : Hp w0 A0 w os) (i : Nat) (hi : os[i]? = some (oEs eb vb bb pl n bs s)) : w.heap[eb]? = some (.cells (envCells s.C vb bb) 40) := by
 obtain ⟨A, U⟩ := T.inside i hi
 obtain ⟨B, H, E, e⟩ := U.get 0 rfl
 exact E.box
theorem Hp.esetCpu {C' : CpuS} (T : Hp w0 A0 w os) (i : Nat) (hi : os[i]? = some (oEs eb vb bb pl n bs s)) (hb : w'.heap[eb]? = some (.cells (envCells C' vb bb) 40)) (hok : C'.ok) (K : Keeps (· = eb) w w') : Hp w0 A0 w' (os.set i (oEs eb vb bb pl n bs ⟨C', s.R⟩)) :=
 T.within i hi fun A U => U.setCpu (i := 0) rfl hb hok K
theorem cpu_range (C : CpuS) (h : w.heap[eb]? = some (.cells (envCells C vb bb) 40)) : w.rangeAt eb 0 C.cells := fun j v hv => by
 have hl : j < 83 := by have := (List.getElem?_eq_some_iff.1 hv).1; rwa [C.cells_len] at this
 rw [Nat.zero_add, cell_at h, ← hv]
 show (C.cells ++ _).toArray[j]? = _
 rw [List.getElem?_toArray, List.getElem?_append_left (by rw [C.cells_len]; exact hl)]
theorem env_there {C : CpuS} (h : w.heap[eb]? = some (.cells (envCells C vb bb) 40)) : w.there eb 0 83 := fun j hj => by
 have h2 := cpu_range C h j
 have hl : j < C.cells.length := by rw [C.cells_len]; exact hj
 refine ⟨?_, free_at h⟩
 rw [h2 _ (List.getElem?_eq_getElem hl)]; rfl
theorem env_laid {C : CpuS} (h : w.heap[eb]? = some (.cells (envCells C vb bb) 40)) (C' : CpuS) : (w.setCells eb 0 C'.cells).heap[eb]? = some (.cells (envCells C' vb bb) 40) := by
 rw [laid_heap eb C'.cells 0 w _ _ h (by rw [C'.cells_len]; exact (by decide : 0 + 83 ≤ 85))]
 congr 2
theorem cells_one (C : CpuS) : C.cells.toArray.all (·.oneCell') = true := by kernel_rfl
theorem Hp.elay (T : Hp w0 A0 w os) (i : Nat) (hi : os[i]? = some (oEs eb vb bb pl n bs s)) (C' : CpuS) (hok : C'.ok) : Hp w0 A0 (w.setCells eb 0 C'.cells) (os.set i (oEs eb vb bb pl n bs ⟨C', s.R⟩)) :=
 T.esetCpu i hi (env_laid (T.eheap i hi) C') hok (laid_keeps eb _ 0 w w (Keeps.refl _ _))
theorem assertX_yes (W : World) (v : Value) : (Instr.typeAssert (.iface 141 v) 20 141 true).run Tryz.prog W = .ok (.tuple #[v, .bool true]) W := by kernel_rfl
theorem assertX_nil (W : World) : (Instr.typeAssert .nilIface 20 141 true).run Tryz.prog W = .ok (.tuple #[.agg #[.int .i64 0, .int .i64 0, .int .u32 0], .bool false]) W := by kernel_rfl
def trialL (eb pb g cb : Nat) (f : FaultS) (C : CpuS) : List Ob := [Ob.box pb (.cells #[.pointer (some ⟨eb, 0, none⟩)] 24), fBox g f, Ob.box cb (.cells C.cells.toArray 36)]
theorem trap_gave {pb g cb : Nat} {f0 : FaultS} {C : CpuS} (f : FaultS) (older : List PanicEntry) (hC : C.ok) (T : Hp w0 A0 w (oEs eb vb bb pl n bs s :: trialL eb pb g cb f0 C)) :
    CallsD Tryz.prog 62 #[.pointer (some ⟨cb, 0, none⟩), .pointer (some ⟨pb, 0, none⟩), .pointer (some ⟨g, 0, none⟩)] (.panicking ({ v := faultX f, recovered := false } :: older)) w fun e u' w' =>
     e = .returned (.tuple #[]) ∧ u' = .panicking ({ v := faultX f, recovered := true } :: older) ∧ Hp w0 A0 w' (oEs eb vb bb pl n bs ⟨C, s.R⟩ :: trialL eb pb g cb f C) := by
 have T1 : Hp w0 A0 (w.alloc (.cells #[.int .i64 f.vec, .int .i64 f.cd, .int .u32 (f.cr2 : Nat)] 141)) (oEs eb vb bb pl n bs s :: trialL eb pb g cb f0 C ++ [Ob.box w.heap.size (.cells #[.int .i64 f.vec, .int .i64 f.cd, .int .u32 (f.cr2 : Nat)] 141)]) := T.make _
 have HT := Lib.hid T1
 have HC := Lib.hid hC
 clear T T1 hC
 refine callsD_of_wpS Tryz.func62 rfl fun c₀ cs hu => ?_
 apply wpS_seq
 apply wpS_region
 simp [wpOpsS, go_sem, recoverD, hu, Tryz.ntmps62, Exit.thenS]
 refine wpS_of_wp ?_
 have ha := fun W v => assertX_yes W v
 unfold faultX
 change Code.wp _ _ _ ⟨#[.pointer (some ⟨cb, 0, none⟩), .pointer (some ⟨pb, 0, none⟩), .pointer (some ⟨g, 0, none⟩), .iface 141 (.agg #[.int .i64 f.vec, .int .i64 f.cd, .int .u32 (f.cr2 : Nat)]), undef, undef, .iface 141 (.agg #[.int .i64 f.vec, .int .i64 f.cd, .int .u32 (f.cr2 : Nat)]), undef, undef, undef, undef, undef, undef, undef, undef, undef, undef, undef, undef, undef, undef, undef], []⟩ w
 go_upto_region 3 with (fail)
 change Code.wp _ _ _ _ (w.alloc (.cells #[.int .i64 f.vec, .int .i64 f.cd, .int .u32 (f.cr2 : Nat)] 141))
 generalize w.alloc (.cells #[.int .i64 f.vec, .int .i64 f.cd, .int .u32 (f.cr2 : Nat)] 141) = w2 at *
 generalize w.heap.size = g2 at *
 clear ha
 have kp := cell_at (k := 0) (HT.out.box 1 rfl)
 simp at kp
 have HB := Lib.hid (HT.out.box 3 rfl)
 have HE := Lib.hid (HT.out.eheap 0 rfl)
 have HT3 := Lib.hid (show Hp w0 A0 (w2.setCells eb 0 C.cells) (oEs eb vb bb pl n bs ⟨C, s.R⟩ :: trialL eb pb g cb f0 C ++ [Ob.box g2 (.cells #[.int .i64 f.vec, .int .i64 f.cd, .int .u32 (f.cr2 : Nat)] 141)]) from HT.out.elay 0 rfl C HC.out)
 go_upto_region 4 with (first | (refine wpList_load_row rfl _ _ rfl cb rfl _ _ _ _ HB.out Tryz.underlying36 rfl info83 ?_) | (refine wpList_store_mid rfl _ _ _ rfl eb 0 C.cells.toArray rfl rfl (env_there HE.out) info83 (cells_one C) ?_))
 change Code.wp _ _ _ _ (w2.setCells eb 0 C.cells)
 clear HT HB HE kp
 generalize w2.setCells eb 0 C.cells = w3 at *
 have hb := HT3.out.box 4 rfl
 have c0 := cell_at (k := 0) hb
 have c1 := cell_at (k := 1) hb
 have c2 := cell_at (k := 2) hb
 simp at c0 c1 c2
 obtain ⟨z0, z1, z2, zf, zl⟩ := HT3.out.fbox (f := f0) 2 rfl
 have HT4 := Lib.hid (show Hp w0 A0 (sets3 w3 g (.int .i64 f.vec) (.int .i64 f.cd) (.int .u32 (f.cr2 : Nat))) (oEs eb vb bb pl n bs ⟨C, s.R⟩ :: trialL eb pb g cb f C ++ [Ob.box g2 (.cells #[.int .i64 f.vec, .int .i64 f.cd, .int .u32 (f.cr2 : Nat)] 141)]) from HT3.out.fset 2 rfl f)
 clear hb HT3
 go_wp2_with fail
 refine ⟨rfl, _, rfl, .tuple #[], by simp [results, Tryz.results62, go_sem], rfl, rfl, HT4.out.left⟩
theorem trap_idle (cb pb g : Nat) (w : World) :
    CallsD Tryz.prog 62 #[.pointer (some ⟨cb, 0, none⟩), .pointer (some ⟨pb, 0, none⟩), .pointer (some ⟨g, 0, none⟩)] .returning w fun e u' w' => e = .returned (.tuple #[]) ∧ u' = .returning ∧ Below w.heap.size w w' := by
 refine callsD_of_wpS Tryz.func62 rfl fun c₀ cs hu => ?_
 apply wpS_seq
 apply wpS_region
 simp [wpOpsS, go_sem, recoverD, hu, Tryz.ntmps62, Exit.thenS]
 refine wpS_of_wp ?_
 have ha := fun W => assertX_nil W
 change Code.wp _ _ _ ⟨#[.pointer (some ⟨cb, 0, none⟩), .pointer (some ⟨pb, 0, none⟩), .pointer (some ⟨g, 0, none⟩), .nilIface, undef, undef, .nilIface, undef, undef, undef, undef, undef, undef, undef, undef, undef, undef, undef, undef, undef, undef, undef], []⟩ w
 go_wp2_with fail
 refine ⟨rfl, .returning, by rw [← hu], .tuple #[], by simp [results, Tryz.results62, go_sem], rfl, rfl, ?_⟩
 exact (Below.refl _ w).alloc (Nat.le_refl _) _
theorem Hp.first {o : Ob} (T : Hp w0 A0 w (o :: os)) : ∃ A', o.P w A' ∧ Moves A0 A' w0 w := by
 obtain ⟨A, ⟨B, C, b, c, d, e⟩, M⟩ := T
 exact ⟨B, b, M.1, fun k hk => M.2 k ((e k).2 (.inl hk))⟩
theorem tried_idle {o : Ob} {pb g cb : Nat} {f : FaultS} {C : CpuS} (T : Hp w0 A0 w (o :: trialL eb pb g cb f C)) {fn : Func} {tmps : Array Value} {d : Tmp} (hf : fn.results = #[.cell d 42]) (ht : tmps.getD d undef = .pointer (some ⟨g, 0, none⟩)) :
    bodyPostD Tryz.prog fn (fun e w' => e = .returned f.val ∧ ∃ A', o.P w' A' ∧ Moves A0 A' w0 w') Exit.ret ⟨tmps, [{ target := .fn (.func 62) #[.pointer (some ⟨cb, 0, none⟩), .pointer (some ⟨pb, 0, none⟩), .pointer (some ⟨g, 0, none⟩)], args := #[] }]⟩ w := by
 refine leaves_cons (f := 62) (args := #[.pointer (some ⟨cb, 0, none⟩), .pointer (some ⟨pb, 0, none⟩), .pointer (some ⟨g, 0, none⟩)]) (by simp) (by simp [go_sem]) ?_
 refine (trap_idle cb pb g _).mono ?_
 rintro e u' w5 ⟨rfl, rfl, hb⟩
 have T5 := T.grow hb
 exact ⟨f.val, fres hf ht w5 (T5.box 2 rfl), rfl, T5.first⟩
theorem tried_gave {pb g cb : Nat} {f0 f : FaultS} {C : CpuS} (hC : C.ok) (T : Hp w0 A0 w (oEs eb vb bb pl n bs s :: trialL eb pb g cb f0 C)) {fn : Func} {tmps : Array Value} {d : Tmp} (hf : fn.results = #[.cell d 42]) (ht : tmps.getD d undef = .pointer (some ⟨g, 0, none⟩)) :
    bodyPostD Tryz.prog fn (fun e w' => e = .returned f.val ∧ ∃ A', (oEs eb vb bb pl n bs ⟨C, s.R⟩).P w' A' ∧ Moves A0 A' w0 w') (Exit.panic [{ v := .iface 141 (.agg #[.int .i64 f.vec, .int .i64 f.cd, .int .u32 (f.cr2 : Nat)]), recovered := false }]) ⟨tmps, [{ target := .fn (.func 62) #[.pointer (some ⟨cb, 0, none⟩), .pointer (some ⟨pb, 0, none⟩), .pointer (some ⟨g, 0, none⟩)], args := #[] }]⟩ w := by
 refine leaves_cons (f := 62) (args := #[.pointer (some ⟨cb, 0, none⟩), .pointer (some ⟨pb, 0, none⟩), .pointer (some ⟨g, 0, none⟩)]) (by simp) (by simp [go_sem]) ?_
 refine (trap_gave f [] hC T).mono ?_
 rintro e u' w5 ⟨rfl, rfl, T5⟩
 exact ⟨f.val, fres hf ht w5 (T5.box 2 rfl), rfl, T5.first⟩
theorem tried_x {F : FuncId} {caps : Array Value} {m : Ex Unit} (hF : ∀ (args : Array Value) (w : World), (callFunc F args).run Tryz.prog w = .ok (.enter F args) w) (hdo : Goes F caps (oEs eb vb bb pl n bs s) (m s) (fun _ => .tuple #[]) (oEs eb vb bb pl n' bs)) :
    Acts 24 #[.pointer (some ⟨eb, 0, none⟩), .func (.func F) #[] caps] (oEs eb vb bb pl n bs s) (triedE m s).1.val (oEs eb vb bb pl n' bs (triedE m s).2) := by
 rintro w A T
 generalize hrt : triedE m s = rt
 have HRT := Lib.hid hrt
 clear hrt
 have T0 := Hp.solo T
 have HO := Lib.hid (T0.ecpu 0 rfl).1
 have T1 : Hp w A (w.alloc (.cells #[.pointer (some ⟨eb, 0, none⟩)] 24)) [oEs eb vb bb pl n bs s, Ob.box w.heap.size (.cells #[.pointer (some ⟨eb, 0, none⟩)] 24)] := T0.make _
 have T2 := T1.make (.cells #[.int .i64 0, .int .i64 0, .int .u32 0] 42)
 rw [show (w.alloc (.cells #[.pointer (some ⟨eb, 0, none⟩)] 24)).heap.size = w.heap.size + 1 by simp] at T2
 have HT := Lib.hid (show Hp w A ((w.alloc (.cells #[.pointer (some ⟨eb, 0, none⟩)] 24)).alloc (.cells #[.int .i64 0, .int .i64 0, .int .u32 0] 42)) [oEs eb vb bb pl n bs s, Ob.box w.heap.size (.cells #[.pointer (some ⟨eb, 0, none⟩)] 24), fBox (w.heap.size + 1) ⟨0, 0, 0⟩] from T2)
 obtain ⟨k3, k4, kl⟩ := T0.es 0 rfl
 have HD := Lib.hid hdo
 clear T T0 T1 T2 hdo
 have hz := fun w => zero83 w
 have hmf : ∀ (fn : Fn) (first cap : Array Value) (w : World), (Instr.makeFunc fn first cap).run Tryz.prog w = .ok (.func fn first cap) w := fun _ _ _ _ => rfl
 go_enter_defers Tryz.func24, Tryz.ntmps24
 go_upto_region 3 with (fail)
 change Code.wp _ _ _ _ ((w.alloc (.cells #[.pointer (some ⟨eb, 0, none⟩)] 24)).alloc (.cells #[.int .i64 0, .int .i64 0, .int .u32 0] 42))
 clear k3 k4 kl
 generalize (w.alloc (.cells #[.pointer (some ⟨eb, 0, none⟩)] 24)).alloc (.cells #[.int .i64 0, .int .i64 0, .int .u32 0] 42) = w2 at *
 generalize w.heap.size + 1 = g at *
 generalize w.heap.size = pb at *
 have kp := cell_at (k := 0) (HT.out.box 1 rfl)
 simp at kp
 have HE := Lib.hid (HT.out.eheap 0 rfl)
 have HN := Lib.hid (heap_new w2 (.cells zero83C 36))
 have T3 : Hp w A (w2.alloc (.cells s.C.cells.toArray 36)) (oEs eb vb bb pl n bs s :: trialL eb pb g w2.heap.size ⟨0, 0, 0⟩ s.C) := HT.out.make (.cells s.C.cells.toArray 36)
 have HT3 := Lib.hid T3
 clear T3
 go_upto_region 4 with (first | (refine wpList_load_mid rfl _ _ rfl eb 0 rfl s.C.cells _ (cpu_range s.C HE.out) Tryz.underlying36 rfl info83 ?_) | (refine wpList_store_row rfl _ _ _ rfl w2.heap.size s.C.cells.toArray rfl rfl _ _ HN.out info83 rfl (cells_one s.C) ?_))
 change Code.wp _ _ _ _ ((w2.alloc (.cells zero83C 36)).setRow w2.heap.size s.C.cells.toArray)
 rw [World.setRow_alloc_new]
 clear HT HE HN kp hz
 generalize w2.alloc (.cells s.C.cells.toArray 36) = w3 at *
 generalize w2.heap.size = cb at *
 go_wp2_with fail
 refine (none_any _).mono ?_
 rintro e w4 ⟨rfl, hb⟩
 have HT4 := Lib.hid (HT3.out.grow hb)
 clear HT3 hb
 obtain ⟨z0, z1, z2, zf, zl⟩ := HT4.out.fbox (f := ⟨0, 0, 0⟩) 2 rfl
 have HT5 := Lib.hid (show Hp w A (sets3 w4 g (.int .i64 noF.vec) (.int .i64 noF.cd) (.int .u32 (noF.cr2 : Nat))) (oEs eb vb bb pl n bs s :: trialL eb pb g cb noF s.C) from HT4.out.fset 2 rfl noF)
 go_upto_region 5 with (fail)
 change Code.wp _ _ _ _ (sets3 w4 g (.int .i64 noF.vec) (.int .i64 noF.cd) (.int .u32 (noF.cr2 : Nat)))
 clear HT4 z0 z1 z2 zf zl
 generalize sets3 w4 g (.int .i64 noF.vec) (.int .i64 noF.cd) (.int .u32 (noF.cr2 : Nat)) = w5 at *
 go_wp2_with fail
 rcases hm : m s with ⟨f | u, s1⟩
 ·have hrt := HRT.out
  rw [show triedE m s = (f, ⟨s.C, s1.R⟩) by unfold triedE; rw [hm]] at hrt
  subst hrt
  refine (HT5.out.go_no 0 rfl HD.out hm).mono ?_
  rintro e w6 ⟨rfl, T6⟩
  exact tried_gave HO.out T6 rfl rfl
 ·have hrt := HRT.out
  rw [show triedE m s = (noF, s1) by unfold triedE; rw [hm]] at hrt
  subst hrt
  refine (HT5.out.go_ok 0 rfl HD.out hm).mono ?_
  rintro e w6 ⟨rfl, T6⟩
  have HT6 := Lib.hid (show Hp w A w6 (oEs eb vb bb pl n' bs s1 :: trialL eb pb g cb noF s.C) from T6)
  clear T6 HT5
  obtain ⟨z0, z1, z2, zf, zl⟩ := HT6.out.fbox (f := noF) 2 rfl
  go_wp2_with fail
  exact tried_idle (f := noF) (HT6.out.fset 2 rfl noF) rfl rfl
end
end Go.Proofs.YtmpcafdgkbpneaaGreat

/- except: a segment's block; a need, one way or the other. -/
namespace Go.Proofs.YtmpcafdgkbpneaaGreat
open Go.RowKit Go.MapKept
set_option linter.unusedVariables false
attribute [local go_sem ↓] Go.wp_at_zero Go.wp_at_succ

section
variable {w w' w0 : World} {A A0 : Nat → Prop} {os : List Ob} {eb vb bb : Nat} {pl : Pl} {n n' : Nat} {s s' : Es}
def segO (d : SegR) : Obj := .cells #[.int .u16 (d.sel : Nat), .bool d.nul, .int .u32 (d.base : Nat), .int .u32 (d.lim : Nat), .int .i64 d.typ, .bool d.sys, .int .i64 d.dpl, .bool d.pre, .bool d.big] 31
def zSeg : SegR := ⟨0, false, 0, 0, 0, false, 0, false, false⟩
theorem CpuAt.task {w : World} {b : Nat} {C : CpuS} (h : CpuAt w b C) : w.cell? ⟨b, 71, none⟩ = some (.int .u16 (C.tr.sel : Nat)) ∧ w.cell? ⟨b, 72, none⟩ = some (.bool C.tr.nul) ∧ w.cell? ⟨b, 73, none⟩ = some (.int .u32 (C.tr.base : Nat)) ∧ w.cell? ⟨b, 74, none⟩ = some (.int .u32 (C.tr.lim : Nat)) ∧ w.cell? ⟨b, 75, none⟩ = some (.int .i64 C.tr.typ) ∧ w.cell? ⟨b, 76, none⟩ = some (.bool C.tr.sys) ∧ w.cell? ⟨b, 77, none⟩ = some (.int .i64 C.tr.dpl) ∧ w.cell? ⟨b, 78, none⟩ = some (.bool C.tr.pre) ∧ w.cell? ⟨b, 79, none⟩ = some (.bool C.tr.big) ∧ b < w.heap.size :=
 ⟨(h.cell 71 (by decide)).trans rfl, (h.cell 72 (by decide)).trans rfl, (h.cell 73 (by decide)).trans rfl, (h.cell 74 (by decide)).trans rfl, (h.cell 75 (by decide)).trans rfl, (h.cell 76 (by decide)).trans rfl, (h.cell 77 (by decide)).trans rfl, (h.cell 78 (by decide)).trans rfl, (h.cell 79 (by decide)).trans rfl, h.lt⟩
theorem Hp.gbox (T : Hp w0 A0 w os) (i : Nat) {g : Nat} {d : SegR} (h : os[i]? = some (Ob.box g (segO d))) : w.cell? ⟨g, 0, none⟩ = some (.int .u16 (d.sel : Nat)) ∧ w.cell? ⟨g, 1, none⟩ = some (.bool d.nul) ∧ w.cell? ⟨g, 2, none⟩ = some (.int .u32 (d.base : Nat)) ∧ w.cell? ⟨g, 3, none⟩ = some (.int .u32 (d.lim : Nat)) ∧ w.cell? ⟨g, 4, none⟩ = some (.int .i64 d.typ) ∧ w.cell? ⟨g, 5, none⟩ = some (.bool d.sys) ∧ w.cell? ⟨g, 6, none⟩ = some (.int .i64 d.dpl) ∧ w.cell? ⟨g, 7, none⟩ = some (.bool d.pre) ∧ w.cell? ⟨g, 8, none⟩ = some (.bool d.big) ∧ (∀ k, w.frozen? ⟨g, k, none⟩ = false) ∧ g < w.heap.size := by
 have hb := T.box i h
 refine ⟨?_, ?_, ?_, ?_, ?_, ?_, ?_, ?_, ?_, fun k => free_at (show w.heap[g]? = some (.cells _ _) from hb), heap_lt hb⟩ <;> (rw [cell_at (show w.heap[g]? = some (.cells _ _) from hb)]; rfl)
def setsG (w : World) (g o : Nat) (d : SegR) : World := ((((((((w.setCell ⟨g, o, none⟩ (.int .u16 (d.sel : Nat))).setCell ⟨g, o + 1, none⟩ (.bool d.nul)).setCell ⟨g, o + 2, none⟩ (.int .u32 (d.base : Nat))).setCell ⟨g, o + 3, none⟩ (.int .u32 (d.lim : Nat))).setCell ⟨g, o + 4, none⟩ (.int .i64 d.typ)).setCell ⟨g, o + 5, none⟩ (.bool d.sys)).setCell ⟨g, o + 6, none⟩ (.int .i64 d.dpl)).setCell ⟨g, o + 7, none⟩ (.bool d.pre)).setCell ⟨g, o + 8, none⟩ (.bool d.big)
theorem keeps_setsG (w : World) (g o : Nat) (d : SegR) : Keeps (· = g) w (setsG w g o d) := (((((((((Keeps.refl (· = g) w).setOne o _).setOne (o + 1) _).setOne (o + 2) _).setOne (o + 3) _).setOne (o + 4) _).setOne (o + 5) _).setOne (o + 6) _).setOne (o + 7) _).setOne (o + 8) _
theorem need_c (p : Bool) (v c : Int) (w : World) : Calls Tryz.prog 26 #[.bool p, .int .i64 v, .int .i64 c] w fun e w' => w' = w ∧ ((p = true ∧ e = .returned (.tuple #[])) ∨ (p = false ∧ e = gaveX ⟨v, c, 0⟩)) := by
 cases p
 ·refine (need_not v c w).mono ?_
  rintro e w' ⟨h, h2⟩
  exact ⟨h2, .inr ⟨rfl, h⟩⟩
 ·refine (need_yes v c w).mono ?_
  rintro e w' ⟨h, h2⟩
  exact ⟨h2, .inl ⟨rfl, h⟩⟩
theorem Ex.then_inv {α β : Type} {m : Ex α} {k : α → Ex β} {s s1 : Es} {b : β} (h : m.then k s = (.ok b, s1)) : ∃ a s2, m s = (.ok a, s2) ∧ k a s2 = (.ok b, s1) := by
 unfold Ex.then at h
 rcases e : m s with ⟨f | a, s2⟩
 ·rw [e] at h; cases h
 ·rw [e] at h; exact ⟨a, s2, rfl, h⟩
theorem descE_sel {sel : Nat} {vec cd : Int} {s s1 : Es} {d : SegR} (h : descE sel vec cd s = (.ok d, s1)) : d.sel = sel := by
 obtain ⟨_, _, _, h1⟩ := Ex.then_inv (show (Ex.then _ _) s = _ from h)
 obtain ⟨_, _, _, h2⟩ := Ex.then_inv h1
 obtain ⟨_, _, _, h3⟩ := Ex.then_inv h2
 cases h3
 rfl
theorem CpuAt.stackSeg {w : World} {b : Nat} {C : CpuS} (h : CpuAt w b C) : w.cell? ⟨b, 28, none⟩ = some (.int .u16 ((C.seg 2).sel : Nat)) ∧ w.cell? ⟨b, 29, none⟩ = some (.bool (C.seg 2).nul) ∧ w.cell? ⟨b, 30, none⟩ = some (.int .u32 ((C.seg 2).base : Nat)) ∧ w.cell? ⟨b, 31, none⟩ = some (.int .u32 ((C.seg 2).lim : Nat)) ∧ w.cell? ⟨b, 32, none⟩ = some (.int .i64 (C.seg 2).typ) ∧ w.cell? ⟨b, 33, none⟩ = some (.bool (C.seg 2).sys) ∧ w.cell? ⟨b, 34, none⟩ = some (.int .i64 (C.seg 2).dpl) ∧ w.cell? ⟨b, 35, none⟩ = some (.bool (C.seg 2).pre) ∧ w.cell? ⟨b, 36, none⟩ = some (.bool (C.seg 2).big) ∧ (∀ k, w.frozen? ⟨b, k, none⟩ = false) ∧ b < w.heap.size :=
 have ⟨a0, a1, a2, a3, a4, a5, a6, a7, a8⟩ := h.segAt 2 (by decide)
 ⟨a0, a1, a2, a3, a4, a5, a6, a7, a8, fun k => h.free k, h.lt⟩
theorem CpuAt.codeSeg {w : World} {b : Nat} {C : CpuS} (h : CpuAt w b C) : w.cell? ⟨b, 19, none⟩ = some (.int .u16 ((C.seg 1).sel : Nat)) ∧ w.cell? ⟨b, 20, none⟩ = some (.bool (C.seg 1).nul) ∧ w.cell? ⟨b, 21, none⟩ = some (.int .u32 ((C.seg 1).base : Nat)) ∧ w.cell? ⟨b, 22, none⟩ = some (.int .u32 ((C.seg 1).lim : Nat)) ∧ w.cell? ⟨b, 23, none⟩ = some (.int .i64 (C.seg 1).typ) ∧ w.cell? ⟨b, 24, none⟩ = some (.bool (C.seg 1).sys) ∧ w.cell? ⟨b, 25, none⟩ = some (.int .i64 (C.seg 1).dpl) ∧ w.cell? ⟨b, 26, none⟩ = some (.bool (C.seg 1).pre) ∧ w.cell? ⟨b, 27, none⟩ = some (.bool (C.seg 1).big) ∧ (∀ k, w.frozen? ⟨b, k, none⟩ = false) ∧ b < w.heap.size :=
 have ⟨a0, a1, a2, a3, a4, a5, a6, a7, a8⟩ := h.segAt 1 (by decide)
 ⟨a0, a1, a2, a3, a4, a5, a6, a7, a8, fun k => h.free k, h.lt⟩
theorem env_setSeg (C : CpuS) (vb bb : Nat) (d : SegR) :
    (((((((((envCells C vb bb).setIfInBounds 28 (.int .u16 (d.sel : Nat))).setIfInBounds 29 (.bool d.nul)).setIfInBounds 30 (.int .u32 (d.base : Nat))).setIfInBounds 31 (.int .u32 (d.lim : Nat))).setIfInBounds 32 (.int .i64 d.typ)).setIfInBounds 33 (.bool d.sys)).setIfInBounds 34 (.int .i64 d.dpl)).setIfInBounds 35 (.bool d.pre)).setIfInBounds 36 (.bool d.big) = envCells (C.setSeg 2 d) vb bb := by kernel_rfl
theorem env_setCs (C : CpuS) (vb bb : Nat) (d : SegR) :
    (((((((((envCells C vb bb).setIfInBounds 19 (.int .u16 (d.sel : Nat))).setIfInBounds 20 (.bool d.nul)).setIfInBounds 21 (.int .u32 (d.base : Nat))).setIfInBounds 22 (.int .u32 (d.lim : Nat))).setIfInBounds 23 (.int .i64 d.typ)).setIfInBounds 24 (.bool d.sys)).setIfInBounds 25 (.int .i64 d.dpl)).setIfInBounds 26 (.bool d.pre)).setIfInBounds 27 (.bool d.big) = envCells (C.setSeg 1 d) vb bb := by kernel_rfl
theorem setSeg_ok {C : CpuS} (h : C.ok) (i : Nat) (d : SegR) (hd : d.ok) : (C.setSeg i d).ok := ⟨h.r, h.eip, h.flags, fun j => by
 show (if j = i then d else C.seg j).ok
 split
 ·exact hd
 ·exact h.seg j, h.cr0, h.cr2, h.cr3, h.gb, h.gl, h.ib, h.il, h.tr⟩
theorem Hp.setSs (T : Hp w0 A0 w os) (i : Nat) (hi : os[i]? = some (oEn eb vb bb pl n s)) (d : SegR) (hd : d.ok) : Hp w0 A0 (setsG w eb 28 d) (os.set i (oEn eb vb bb pl n ⟨s.C.setSeg 2 d, s.R⟩)) := by
 obtain ⟨A, H, E, e⟩ := T.get i hi
 refine T.setCpu i hi ?_ (setSeg_ok E.cok 2 d hd) (keeps_setsG w eb 28 d)
 unfold setsG
 rw [← env_setSeg]
 simp only [heap_set_map, E.box, Option.map_some]
 rfl
theorem Hp.setCs (T : Hp w0 A0 w os) (i : Nat) (hi : os[i]? = some (oEn eb vb bb pl n s)) (d : SegR) (hd : d.ok) : Hp w0 A0 (setsG w eb 19 d) (os.set i (oEn eb vb bb pl n ⟨s.C.setSeg 1 d, s.R⟩)) := by
 obtain ⟨A, H, E, e⟩ := T.get i hi
 refine T.setCpu i hi ?_ (setSeg_ok E.cok 1 d hd) (keeps_setsG w eb 19 d)
 unfold setsG
 rw [← env_setCs]
 simp only [heap_set_map, E.box, Option.map_some]
 rfl
end
end Go.Proofs.YtmpcafdgkbpneaaGreat

