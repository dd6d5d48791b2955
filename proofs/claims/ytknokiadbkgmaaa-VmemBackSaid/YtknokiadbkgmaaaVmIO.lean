/- VmK, VmL, VmN, VmM, VmO, VmP, together. -/
import Derived.Test.YtknokiadbkgmaaaVmSeg
import Derived.Test.YtknokiadbkgmaaaVmE
import Derived.Test.YtknokiadbkgmaaaVmF
import Derived.Defers
/- vmem: faults; the calls with a door. -/
namespace Go.Proofs.Ytknokiadbkgmaaa
open Go.RowKit Go.MapKept
set_option linter.unusedVariables false
attribute [local go_sem ↓] Go.wp_at_zero Go.wp_at_succ

structure FaultS where
  vec : Int
  cd : Int
  cr2 : Nat
def noF : FaultS := ⟨-1, -1, 0⟩
def FaultS.cells (f : FaultS) : Array Value := #[.int .i64 f.vec, .int .i64 f.cd, .int .u32 (f.cr2 : Nat)]
def FaultS.val (f : FaultS) : Value := .agg #[.int .i64 f.vec, .int .i64 f.cd, .int .u32 (f.cr2 : Nat)]
theorem none_any (w : World) : Calls Try.prog 9 #[] w fun e w' => e = .returned (.agg #[.int .i64 (-1), .int .i64 (-1), .int .u32 0]) ∧ Below w.heap.size w w' := by
  go_enter Try.func9, Try.ntmps9
  go_wp2_with fail
  refine bodyPost_ret (v := .agg #[.int .i64 (-1), .int .i64 (-1), .int .u32 0]) (by simp [results, Try.results9, go_sem]) rfl ⟨rfl, ?_⟩
  go_grown
theorem pg_fits {R R' : RS} {C : CpuS} {lin size : Nat} {wr us : Bool} {s : SpanS} (hw : Wide R) (hl : lin < 4294967296) (h4 : size ≤ 4) (hc : C.cr3 < 4294967296) (h : pg R C lin size wr us = (.ok s, R')) : s.ok ∧ s.n0 + s.n1 = size := by
  have hfl := first_le lin size
  have hl2 : lin2 lin size < 4294967296 := by unfold lin2; omega
  have op : ∀ fr l : Nat, fr % 4096 = 0 → fr < 4294967296 → onPage fr l < 4294967296 := fun fr l h1 h2 => by unfold onPage; omega
  cases hp : C.paged with
  | false =>
    unfold pg at h
    rw [hp] at h
    obtain ⟨h1, _⟩ := Prod.mk.inj h
    injection h1 with h1
    subst h1
    exact ⟨⟨hl, hl2, by show first lin size + (size - first lin size) ≤ 4; omega⟩, by show first lin size + (size - first lin size) = size; omega⟩
  | true =>
    rw [pg_on hp] at h
    obtain ⟨⟨⟨fr, pd, pt, xw, xu⟩, cd, R1⟩, hr⟩ : ∃ r, find R C.cr3 lin wr us C.wp = r := ⟨_, rfl⟩
    rw [hr] at h
    obtain ⟨f1, f2⟩ := find_frame hw hr
    by_cases h0 : 0 ≤ cd
    · rw [pg1_fault h0] at h; cases h
    · by_cases h1 : size = first lin size
      · rw [pg1_one h0 h1] at h
        obtain ⟨h2, _⟩ := Prod.mk.inj h
        injection h2 with h2
        subst h2
        exact ⟨⟨op _ _ f1 f2, hl2, by show first lin size + 0 ≤ 4; omega⟩, by show first lin size + 0 = size; omega⟩
      · rw [pg1_two h0 h1] at h
        obtain ⟨⟨⟨fr2, pd2, pt2, xw2, xu2⟩, cd2, R2⟩, hr2⟩ : ∃ r, find R1 C.cr3 (lin2 lin size) wr us C.wp = r := ⟨_, rfl⟩
        rw [hr2] at h
        obtain ⟨g1, g2⟩ := find_frame (find_parts hw hc hl hr).1 hr2
        by_cases h2 : 0 ≤ cd2
        · rw [pg2_fault h2] at h; cases h
        · rw [pg2_ok h2] at h
          obtain ⟨h3, _⟩ := Prod.mk.inj h
          injection h3 with h3
          subst h3
          exact ⟨⟨op _ _ f1 f2, op _ _ g1 g2, by show first lin size + (size - first lin size) ≤ 4; omega⟩, by show first lin size + (size - first lin size) = size; omega⟩
theorem sg_fits {R R' : RS} {C : CpuS} {seg : Int} {off : Nat} {size : Int} {wr : Bool} {s : SpanS} (hw : Wide R) (hc : C.ok) (h : sg R C seg off size wr = (.ok s, R')) : s.ok ∧ s.n0 + s.n1 = size.toNat := by
  unfold sg at h
  split at h
  · rename_i hh
    unfold sg2 at h
    split at h
    · obtain ⟨h1, h2⟩ := Prod.mk.inj h
      cases hp : (pg R C (((C.seg seg.toNat).base + off) % 4294967296) size.toNat wr C.user) with
      | mk a b =>
        rw [hp] at h1 h2
        cases a with
        | ok s' =>
          injection h1 with h1
          subst h1
          exact pg_fits hw (Nat.mod_lt _ (by decide)) (by rcases hh.1 with h | h | h <;> omega) hc.cr3 hp
        | fault cd a => cases h1
    · cases h
  · cases h
section
variable {w w' w2 : World} {vb cb : Nat} {places : Pl} {n : Nat} {H H' : Nat → Prop} {R R' : RS} {C : CpuS}
theorem segment_got (hV : Vm w vb places n H R) (hC : CpuAt w cb C) (hcb : ¬ H cb) (seg : Int) (off : Nat) (size : Int) (ho : off < 4294967296) (wr : Bool) (hnb : (n + 2) * 12 ≤ 140737488355328) {s : SpanS} {R' : RS} (h : sg R C seg off size wr = (.ok s, R')) :
    Calls Try.prog 33 #[.pointer (some ⟨vb, 0, none⟩), .pointer (some ⟨cb, 0, none⟩), .int .i64 seg, .int .u32 (off : Nat), .int .i64 size, .bool wr] w fun e w' =>
      e = .returned (.agg #[.int .u32 (s.a0 : Nat), .int .u32 (s.a1 : Nat), .int .u32 (s.n0 : Nat), .int .u32 (s.n1 : Nat)]) ∧ ∃ H', Vm w' vb places (n + 2) H' R' ∧ Moves H H' w w' :=
  (segment_any hV hC hcb seg off size ho wr hnb).mono fun e w' ⟨h1, _, h3⟩ => by rw [h] at h1 h3; exact ⟨h1 s rfl, h3⟩
theorem segment_gave (hV : Vm w vb places n H R) (hC : CpuAt w cb C) (hcb : ¬ H cb) (seg : Int) (off : Nat) (size : Int) (ho : off < 4294967296) (wr : Bool) (hnb : (n + 2) * 12 ≤ 140737488355328) {v cd : Int} {a : Nat} {R' : RS} (h : sg R C seg off size wr = (.no v cd a, R')) :
    Calls Try.prog 33 #[.pointer (some ⟨vb, 0, none⟩), .pointer (some ⟨cb, 0, none⟩), .int .i64 seg, .int .u32 (off : Nat), .int .i64 size, .bool wr] w fun e w' =>
      e = .panicked [{ v := faultV v cd a, recovered := false }] ∧ ∃ H', Vm w' vb places (n + 2) H' R' ∧ Moves H H' w w' :=
  (segment_any hV hC hcb seg off size ho wr hnb).mono fun e w' ⟨_, h2, h3⟩ => by rw [h] at h2 h3; exact ⟨h2 v cd a rfl, h3⟩
end
end Go.Proofs.Ytknokiadbkgmaaa

/- vmem: Store, Check. -/
namespace Go.Proofs.Ytknokiadbkgmaaa
open Go.RowKit Go.MapKept
set_option linter.unusedVariables false
attribute [local go_sem ↓] Go.wp_at_zero Go.wp_at_succ

/-- Store, in plain words. -/
def st (R : RS) (C : CpuS) (seg : Int) (off : Nat) (size : Int) (v : Nat) : FaultS × RS :=
  match sg R C seg off size true with
  | (.ok s, R') => (noF, putN R' s v (s.n0 + s.n1))
  | (.no a b c, R') => (⟨a, b, c⟩, R')
theorem st_ok {R R' : RS} {C : CpuS} {seg : Int} {off : Nat} {size : Int} {v : Nat} {s : SpanS} (h : sg R C seg off size true = (.ok s, R')) : st R C seg off size v = (noF, putN R' s v (s.n0 + s.n1)) := by unfold st; rw [h]
theorem st_no {R R' : RS} {C : CpuS} {seg : Int} {off : Nat} {size : Int} {v : Nat} {a b : Int} {c : Nat} (h : sg R C seg off size true = (.no a b c, R')) : st R C seg off size v = (⟨a, b, c⟩, R') := by unfold st; rw [h]
/-- A fault is told, and the memory is as said. -/
def FEnd (w : World) (vb : Nat) (places : Pl) (n : Nat) (H : Nat → Prop) (g : FaultS × RS) (e : Ending) (w' : World) : Prop :=
  e = .returned g.1.val ∧ ∃ H', Vm w' vb places (n + 2) H' g.2 ∧ Moves H H' w w'
def sets3 (w : World) (b : Nat) (v0 v1 v2 : Value) : World := ((w.setCell ⟨b, 0, .none⟩ v0).setCell ⟨b, 1, .none⟩ v1).setCell ⟨b, 2, .none⟩ v2
theorem keeps_sets3 (w : World) (b : Nat) (v0 v1 v2 : Value) : Keeps (· = b) w (sets3 w b v0 v1 v2) := (((Keeps.refl (· = b) w).setOne 0 _).setOne 1 _).setOne 2 _
theorem block_sets3 {w : World} {b : Nat} {a0 a1 a2 : Value} {T : TypeId} (h : w.heap[b]? = some (.cells #[a0, a1, a2] T (0, 0))) (v0 v1 v2 : Value) : (sets3 w b v0 v1 v2).heap[b]? = some (.cells #[v0, v1, v2] T (0, 0)) := by
  unfold sets3
  simp only [heap_set_map, putObj_cells, h, Option.map_some, List.set_cons_succ, List.set_cons_zero]
/-- The fault's block beside the object. -/
structure Door (w w1 : World) (vb : Nat) (places : Pl) (n : Nat) (H H1 : Nat → Prop) (R : RS) (g : Nat) (f : FaultS) : Prop where
  vm : Vm w1 vb places n H1 R
  mv : Moves H H1 w w1
  nin : ¬ H1 g
  new : w.heap.size ≤ g
  box : w1.heap[g]? = some (.cells f.cells 25)
section
variable {w w1 w' w2 : World} {vb cb : Nat} {places : Pl} {n n' g : Nat} {H H' H1 H2 : Nat → Prop} {R R' : RS} {C : CpuS} {f f' : FaultS}
theorem Door.keeps (h : Door w w1 vb places n H H1 R g f) (hk : Keeps (· = g) w1 w') (hf : w'.heap[g]? = some (.cells f'.cells 25)) : Door w w' vb places n H H1 R g f' :=
  ⟨h.vm.keeps hk h.nin, h.mv.setNew hk h.new, h.nin, h.new, hf⟩
theorem Door.below (h : Door w w1 vb places n H H1 R g f) (hb : Below w1.heap.size w1 w') : Door w w' vb places n H H1 R g f := h.keeps (Keeps.ofBelow hb) (heap_below hb h.box)
theorem Door.fend (h : Door w w1 vb places (n + 2) H H1 R g f) : FEnd w vb places n H (f, R) (.returned f.val) w1 := ⟨rfl, H1, h.vm, h.mv⟩
theorem Door.start (hV : Vm w vb places n H R) : Door w (w.alloc (.cells #[.int .i64 0, .int .i64 0, .int .u32 0] 25)) vb places n H H R w.heap.size ⟨0, 0, 0⟩ :=
  ⟨hV.of_heap fun k hk => Below.heap_alloc _ _ _ (hV.lt k hk), Moves.ofBelow ((Below.refl _ _).alloc (Nat.le_refl _) _), fun h => by have := hV.lt _ h; omega, Nat.le_refl _, heap_new w _⟩
/-- Behind a call that moves the object. -/
theorem Door.move (h : Door w w1 vb places n H H1 R g f) (hV2 : Vm w2 vb places n' H2 R') (M2 : Moves H1 H2 w1 w2) : Door w w2 vb places n' H H2 R' g f :=
  ⟨hV2, h.mv.trans M2, fun hh => by
    rcases M2.2 g hh with h' | h'
    · exact h.nin h'
    · have := heap_lt h.box; omega, h.new, (M2.1.block g (heap_lt h.box) h.nin).trans h.box⟩
theorem Door.set (h : Door w w1 vb places n H H1 R g f) (f' : FaultS) : Door w (sets3 w1 g (.int .i64 f'.vec) (.int .i64 f'.cd) (.int .u32 (f'.cr2 : Nat))) vb places n H H1 R g f' :=
  h.keeps (keeps_sets3 _ _ _ _ _) (block_sets3 h.box _ _ _)
theorem Door.cpu (h : Door w w1 vb places n H H1 R g f) (hC : CpuAt w cb C) (hcb : ¬ H cb) : CpuAt w1 cb C ∧ ¬ H1 cb :=
  ⟨hC.of_heap (h.mv.1.block cb hC.lt hcb), fun hh => by
    rcases h.mv.2 cb hh with h' | h'
    · exact hcb h'
    · have := hC.lt; omega⟩
theorem Door.facts (h : Door w w1 vb places n H H1 R g f) : w1.cell? ⟨g, 0, none⟩ = some (.int .i64 f.vec) ∧ w1.cell? ⟨g, 1, none⟩ = some (.int .i64 f.cd) ∧ w1.cell? ⟨g, 2, none⟩ = some (.int .u32 (f.cr2 : Nat)) ∧ (∀ k, w1.frozen? ⟨g, k, none⟩ = false) ∧ g < w1.heap.size :=
  ⟨by rw [cell_at h.box]; rfl, by rw [cell_at h.box]; rfl, by rw [cell_at h.box]; rfl, fun k => free_at h.box, heap_lt h.box⟩
/-- The door, where nothing was given up. -/
theorem Door.idle (h : Door w w1 vb places n H H1 R g f) {fn : Func} {tmps : Array Value} {v : Value} {post : Ending → World → Prop} (hres : ∀ w5 : World, w5.heap[g]? = some (.cells f.cells 25) → (results fn tmps).run Try.prog w5 = .ok v w5) (hpost : ∀ w5, Door w w5 vb places n H H1 R g f → post (.returned v) w5) :
    bodyPostD Try.prog fn post Exit.ret ⟨tmps, [{ target := .fn (.func 31) #[], args := #[.pointer (some ⟨g, 0, none⟩)] }]⟩ w1 := by
  refine leaves_cons (f := 31) (args := #[.pointer (some ⟨g, 0, none⟩)]) (by simp) (by simp [go_sem]) ?_
  refine (caught_idle g _).mono ?_
  rintro e u' w5 ⟨rfl, rfl, hb⟩
  have D := h.below hb
  exact ⟨v, hres _ D.box, hpost _ D⟩
/-- The door, where a fault was given up. -/
theorem Door.gave (h : Door w w1 vb places n H H1 R g f) (f' : FaultS) {fn : Func} {tmps : Array Value} {v : Value} {post : Ending → World → Prop} (hres : ∀ w5 : World, w5.heap[g]? = some (.cells f'.cells 25) → (results fn tmps).run Try.prog w5 = .ok v w5) (hpost : ∀ w5, Door w w5 vb places n H H1 R g f' → post (.returned v) w5) :
    bodyPostD Try.prog fn post (Exit.panic [{ v := faultV f'.vec f'.cd f'.cr2, recovered := false }]) ⟨tmps, [{ target := .fn (.func 31) #[], args := #[.pointer (some ⟨g, 0, none⟩)] }]⟩ w1 := by
  refine leaves_cons (f := 31) (args := #[.pointer (some ⟨g, 0, none⟩)]) (by simp) (by simp [go_sem]) ?_
  refine (caught_panic g _ _ _ f'.vec f'.cd f'.cr2 [] _ h.box).mono ?_
  rintro e u' w5 ⟨rfl, rfl, hf, hk⟩
  have D := h.keeps hk hf
  exact ⟨v, hres _ D.box, hpost _ D⟩
theorem fres {fn : Func} {tmps : Array Value} {d : Tmp} (hf : fn.results = #[.cell d 25]) (ht : tmps.getD d undef = .pointer (some ⟨g, 0, none⟩)) (w5 : World) (hb : w5.heap[g]? = some (.cells f.cells 25)) : (results fn tmps).run Try.prog w5 = .ok f.val w5 := by
  have c0 := cell_at (k := 0) hb
  have c1 := cell_at (k := 1) hb
  have c2 := cell_at (k := 2) hb
  simp [FaultS.cells] at c0 c1 c2
  have ht' : tmps[d]?.getD undef = .pointer (some ⟨g, 0, none⟩) := by simpa using ht
  simp [results, hf, go_sem, ht', c0, c1, c2, FaultS.val]
set_option maxRecDepth 20000 in
set_option maxHeartbeats 2000000 in
theorem store_ok (hV : Vm w vb places n H R) (hC : CpuAt w cb C) (hcb : ¬ H cb) (seg : Int) (off : Nat) (size : Int) (ho : off < 4294967296) (v : Nat) (hv : v < 4294967296) (hnb : (n + 2) * 12 ≤ 140737488355328) {s : SpanS} {R' : RS} (h : sg R C seg off size true = (.ok s, R')) :
    Calls Try.prog 15 #[.pointer (some ⟨vb, 0, none⟩), .pointer (some ⟨cb, 0, none⟩), .int .i64 seg, .int .u32 (off : Nat), .int .i64 size, .int .u32 (v : Nat)] w (FEnd w vb places n H (st R C seg off size v)) := by
  rw [st_ok h]
  have hs := (sg_fits hV.wide hC.1 h).1
  have HS := Lib.hid hs
  have HV := Lib.hid hV
  have HC := Lib.hid hC
  have HCB := Lib.hid hcb
  have HN := Lib.hid hnb
  have HH := Lib.hid h
  clear hV hC hcb hnb h hs
  go_enter_defers Try.func15, Try.ntmps15
  go_wp2_with fail
  refine (none_any _).mono ?_
  rintro e w1 ⟨rfl, hb1⟩
  have D1 := (Door.start HV.out).below hb1
  have D2 := Lib.hid (D1.set noF)
  obtain ⟨c0, c1, c2, cf, cl⟩ := D1.facts
  clear hb1 D1
  go_upto_region 2 with (fail)
  change Code.wp _ _ _ _ (sets3 w1 w.heap.size (.int .i64 noF.vec) (.int .i64 noF.cd) (.int .u32 (noF.cr2 : Nat)))
  clear c0 c1 c2 cf cl
  generalize sets3 w1 w.heap.size (.int .i64 noF.vec) (.int .i64 noF.cd) (.int .u32 (noF.cr2 : Nat)) = w2 at *
  generalize hG : w.heap.size = g at *
  clear hG
  have HCw := Lib.hid (D2.out.cpu HC.out HCB.out)
  go_wp2_with fail
  refine (segment_got D2.out.vm HCw.out.1 HCw.out.2 seg off size ho true HN.out HH.out).mono ?_
  rintro e w3 ⟨rfl, H3, hV3, M3⟩
  have D3 := Lib.hid (D2.out.move hV3 M3)
  clear hV3 M3 D2
  go_wp2_with fail
  refine (put_span D3.out.vm HS.out v hv).mono ?_
  rintro e w4 ⟨rfl, H4, hV4, M4⟩
  have D4 := Lib.hid (D3.out.move hV4 M4)
  clear hV4 M4 D3
  obtain ⟨c0, c1, c2, cf, cl⟩ := D4.out.facts
  go_wp2_with fail
  exact (D4.out.set noF).idle (fres rfl rfl) (fun w5 D => D.fend)
set_option maxRecDepth 20000 in
set_option maxHeartbeats 2000000 in
theorem store_no (hV : Vm w vb places n H R) (hC : CpuAt w cb C) (hcb : ¬ H cb) (seg : Int) (off : Nat) (size : Int) (ho : off < 4294967296) (v : Nat) (hnb : (n + 2) * 12 ≤ 140737488355328) {a b : Int} {c : Nat} {R' : RS} (h : sg R C seg off size true = (.no a b c, R')) :
    Calls Try.prog 15 #[.pointer (some ⟨vb, 0, none⟩), .pointer (some ⟨cb, 0, none⟩), .int .i64 seg, .int .u32 (off : Nat), .int .i64 size, .int .u32 (v : Nat)] w (FEnd w vb places n H (st R C seg off size v)) := by
  rw [st_no h]
  have HV := Lib.hid hV
  have HC := Lib.hid hC
  have HCB := Lib.hid hcb
  have HN := Lib.hid hnb
  have HH := Lib.hid h
  clear hV hC hcb hnb h
  go_enter_defers Try.func15, Try.ntmps15
  go_wp2_with fail
  refine (none_any _).mono ?_
  rintro e w1 ⟨rfl, hb1⟩
  have D1 := (Door.start HV.out).below hb1
  have D2 := Lib.hid (D1.set noF)
  obtain ⟨c0, c1, c2, cf, cl⟩ := D1.facts
  clear hb1 D1
  go_upto_region 2 with (fail)
  change Code.wp _ _ _ _ (sets3 w1 w.heap.size (.int .i64 noF.vec) (.int .i64 noF.cd) (.int .u32 (noF.cr2 : Nat)))
  clear c0 c1 c2 cf cl
  generalize sets3 w1 w.heap.size (.int .i64 noF.vec) (.int .i64 noF.cd) (.int .u32 (noF.cr2 : Nat)) = w2 at *
  generalize hG : w.heap.size = g at *
  clear hG
  have HCw := Lib.hid (D2.out.cpu HC.out HCB.out)
  go_wp2_with fail
  refine (segment_gave D2.out.vm HCw.out.1 HCw.out.2 seg off size ho true HN.out HH.out).mono ?_
  rintro e w3 ⟨rfl, H3, hV3, M3⟩
  exact (D2.out.move hV3 M3).gave ⟨a, b, c⟩ (fres rfl rfl) (fun w5 D => D.fend)
/-- Store. -/
theorem store_any (hV : Vm w vb places n H R) (hC : CpuAt w cb C) (hcb : ¬ H cb) (seg : Int) (off : Nat) (size : Int) (ho : off < 4294967296) (v : Nat) (hv : v < 4294967296) (hnb : (n + 2) * 12 ≤ 140737488355328) :
    Calls Try.prog 15 #[.pointer (some ⟨vb, 0, none⟩), .pointer (some ⟨cb, 0, none⟩), .int .i64 seg, .int .u32 (off : Nat), .int .i64 size, .int .u32 (v : Nat)] w (FEnd w vb places n H (st R C seg off size v)) := by
  obtain ⟨⟨a, R'⟩, h⟩ : ∃ r, sg R C seg off size true = r := ⟨_, rfl⟩
  cases a with
  | ok s => exact store_ok hV hC hcb seg off size ho v hv hnb h
  | no a b c => exact store_no hV hC hcb seg off size ho v hnb h
end
end Go.Proofs.Ytknokiadbkgmaaa

/- vmem: Load. -/
namespace Go.Proofs.Ytknokiadbkgmaaa
open Go.RowKit Go.MapKept
set_option linter.unusedVariables false
set_option linter.unusedSimpArgs false
attribute [local go_sem ↓] Go.wp_at_zero Go.wp_at_succ

theorem results_put {fn : Func} {tmps : Array Value} {d a b : Tmp} {T : TypeId} (hf : fn.results = #[.tmp a, .cell b T]) (ha : d ≠ a) (hb : d ≠ b) (v : Value) : results fn (tmps.setIfInBounds d v) = results fn tmps := by
  have e1 : (tmps.setIfInBounds d v).getD a undef = tmps.getD a undef := by simp [ha]
  have e2 : (tmps.setIfInBounds d v).getD b undef = tmps.getD b undef := by simp [hb]
  unfold results
  rw [hf]
  simp only [Array.mapM_eq_mapM_toList, List.mapM_cons, List.mapM_nil, e1, e2]
theorem Leaves_congr {P : Program} {fn : Func} {t t' : Array Value} {R : Ending → World → Prop} (h : results fn t = results fn t') : ∀ (ds : List Deferred) (u : FrameMode) (w : World), Leaves P fn t R ds u w = Leaves P fn t' R ds u w := by
  intro ds
  induction ds with
  | nil => intro u w; cases u <;> simp only [Leaves, h]
  | cons d ds ih => intro u w; simp only [Leaves, ih]
theorem panicD_put {P : Program} {fn : Func} {R : Ending → World → Prop} {K : Act → World → Prop} {d a b : Tmp} {T : TypeId} (hf : fn.results = #[.tmp a, .cell b T]) (ha : d ≠ a) (hb : d ≠ b) (v : Value) (c : List PanicEntry) (x : Act) (w : World) (h : Exit.then K (bodyPostD P fn R) (.panic c) (x.put (some d) v) w) : Exit.then K (bodyPostD P fn R) (.panic c) x w := by
  have e := Leaves_congr (P := P) (R := R) (results_put (fn := fn) (tmps := x.tmps) hf ha hb v) x.defers (.panicking c) w
  exact e.mp h
/-- Load, in plain words. -/
def ldOf : SegGot × RS → (Nat × FaultS) × RS
  | (.ok s, R') => ((getN R' s (s.n0 + s.n1), noF), R')
  | (.no a b c, R') => ((0, ⟨a, b, c⟩), R')
def ld (R : RS) (C : CpuS) (seg : Int) (off : Nat) (size : Int) : (Nat × FaultS) × RS := ldOf (sg R C seg off size false)
/-- A value and a fault are told. -/
def VEnd (w : World) (vb : Nat) (places : Pl) (n : Nat) (H : Nat → Prop) (g : (Nat × FaultS) × RS) (e : Ending) (w' : World) : Prop :=
  e = .returned (.tuple #[.int .u32 (g.1.1 : Nat), g.1.2.val]) ∧ ∃ H', Vm w' vb places (n + 2) H' g.2 ∧ Moves H H' w w'
section
variable {w w1 w' w2 : World} {vb cb : Nat} {places : Pl} {n n' g : Nat} {H H' H1 H2 : Nat → Prop} {R R' : RS} {C : CpuS} {f f' : FaultS}
theorem Door.vend (h : Door w w1 vb places (n + 2) H H1 R g f) (v : Nat) : VEnd w vb places n H ((v, f), R) (.returned (.tuple #[.int .u32 (v : Nat), f.val])) w1 := ⟨rfl, H1, h.vm, h.mv⟩
theorem vres {fn : Func} {tmps : Array Value} {d c : Tmp} {v : Value} (hf : fn.results = #[.tmp c, .cell d 25]) (hc : tmps.getD c undef = v) (ht : tmps.getD d undef = .pointer (some ⟨g, 0, none⟩)) (w5 : World) (hb : w5.heap[g]? = some (.cells f.cells 25)) : (results fn tmps).run Try.prog w5 = .ok (.tuple #[v, f.val]) w5 := by
  have c0 := cell_at (k := 0) hb
  have c1 := cell_at (k := 1) hb
  have c2 := cell_at (k := 2) hb
  simp [FaultS.cells] at c0 c1 c2
  have ht' : tmps[d]?.getD undef = .pointer (some ⟨g, 0, none⟩) := by simpa using ht
  have hc' : tmps[c]?.getD undef = v := by simpa using hc
  simp [results, hf, go_sem, ht', hc', c0, c1, c2, FaultS.val]
set_option maxRecDepth 20000 in
set_option maxHeartbeats 2000000 in
theorem load_no (hV : Vm w vb places n H R) (hC : CpuAt w cb C) (hcb : ¬ H cb) (seg : Int) (off : Nat) (size : Int) (ho : off < 4294967296) (hnb : (n + 2) * 12 ≤ 140737488355328) {a b : Int} {c : Nat} {R' : RS} (h : sg R C seg off size false = (.no a b c, R')) :
    Calls Try.prog 13 #[.pointer (some ⟨vb, 0, none⟩), .pointer (some ⟨cb, 0, none⟩), .int .i64 seg, .int .u32 (off : Nat), .int .i64 size] w (VEnd w vb places n H (ld R C seg off size)) := by
  rw [show ld R C seg off size = ((0, ⟨a, b, c⟩), R') by unfold ld; rw [h]; rfl]
  have HV := Lib.hid hV
  have HC := Lib.hid hC
  have HCB := Lib.hid hcb
  have HN := Lib.hid hnb
  have HH := Lib.hid h
  clear hV hC hcb hnb h
  go_enter_defers Try.func13, Try.ntmps13
  go_wp2_with fail
  refine (none_any _).mono ?_
  rintro e w1 ⟨rfl, hb1⟩
  have D1 := (Door.start HV.out).below hb1
  have D2 := Lib.hid ((D1.set noF).below (Below.refl _ _).drew)
  obtain ⟨c0, c1, c2, cf, cl⟩ := D1.facts
  clear hb1 D1
  go_upto_region 3 with (fail)
  change Code.wp _ _ _ _ (sets3 w1 w.heap.size (.int .i64 noF.vec) (.int .i64 noF.cd) (.int .u32 (noF.cr2 : Nat)))
  clear c0 c1 c2 cf cl
  generalize sets3 w1 w.heap.size (.int .i64 noF.vec) (.int .i64 noF.cd) (.int .u32 (noF.cr2 : Nat)) = w2 at *
  generalize hG : w.heap.size = g at *
  clear hG
  have HCw := Lib.hid (D2.out.cpu HC.out HCB.out)
  have cs := Lib.hid (segment_gave D2.out.vm HCw.out.1 HCw.out.2 seg off size ho false HN.out HH.out)
  obtain ⟨c0, c1, c2, -, -⟩ := D2.out.facts
  refine wp_region_held_drew (S := fun w' => w'.cell? ⟨g, 0, none⟩ = some (.int .i64 noF.vec) ∧ w'.cell? ⟨g, 1, none⟩ = some (.int .i64 noF.cd) ∧ w'.cell? ⟨g, 2, none⟩ = some (.int .u32 (noF.cr2 : Nat))) (by kernel_rfl) ⟨c0, c1, c2⟩ (fun hHeld => ?_)
  clear c0 c1 c2
  refine wpAnyH_take (i := 0) (oi := _) (v := ?_) rfl (by kernel_rfl) (by kernel_rfl) (by kernel_rfl) (panicD_put rfl (by decide) (by decide) _) (Or.inl ⟨by rfl, ?_⟩) (by assumption) ?_
  rotate_left
  · (intro w hSw; (try dsimp only at hSw); go_simp <;> rfl)
  simp only [Act.put, List.getElem_toArray, List.getElem_cons_zero, List.getElem_cons_succ, List.setIfInBounds_toArray, List.set_cons_zero, List.set_cons_succ]
  refine wpAnyH_take (i := 1) (oi := _) (v := ?_) rfl (by kernel_rfl) (by kernel_rfl) (by kernel_rfl) (panicD_put rfl (by decide) (by decide) _) (Or.inl ⟨by rfl, ?_⟩) (by assumption) ?_
  rotate_left
  · (intro w hSw; (try dsimp only at hSw); go_simp <;> rfl)
  simp only [Act.put, List.getElem_toArray, List.getElem_cons_zero, List.getElem_cons_succ, List.setIfInBounds_toArray, List.set_cons_zero, List.set_cons_succ]
  refine wpAnyH_take (i := 2) (oi := _) (v := ?_) rfl (by kernel_rfl) (by kernel_rfl) (by kernel_rfl) (panicD_put rfl (by decide) (by decide) _) (Or.inl ⟨by rfl, ?_⟩) (by assumption) ?_
  rotate_left
  · (intro w hSw; (try dsimp only at hSw); go_simp <;> rfl)
  simp only [Act.put, List.getElem_toArray, List.getElem_cons_zero, List.getElem_cons_succ, List.setIfInBounds_toArray, List.set_cons_zero, List.set_cons_succ]
  refine wpAnyH_take (i := 3) (oi := _) (v := ?_) rfl (by kernel_rfl) (by kernel_rfl) (by kernel_rfl) (panicD_put rfl (by decide) (by decide) _) (Or.inl ⟨by rfl, ?_⟩) (by assumption) ?_
  rotate_left
  · (intro w hSw; (try dsimp only at hSw); go_simp <;> rfl)
  simp only [Act.put, List.getElem_toArray, List.getElem_cons_zero, List.getElem_cons_succ, List.setIfInBounds_toArray, List.set_cons_zero, List.set_cons_succ]
  refine wpAnyH_take (i := 4) (oi := _) (v := ?_) rfl (by kernel_rfl) (by kernel_rfl) (by kernel_rfl) (panicD_put rfl (by decide) (by decide) _) (Or.inl ⟨by rfl, ?_⟩) (by assumption) ?_
  rotate_left
  · (intro w hSw; (try dsimp only at hSw); go_simp <;> rfl)
  simp only [Act.put, List.getElem_toArray, List.getElem_cons_zero, List.getElem_cons_succ, List.setIfInBounds_toArray, List.set_cons_zero, List.set_cons_succ]
  refine wpAnyH_take (i := 5) (oi := _) (v := ?_) rfl (by kernel_rfl) (by kernel_rfl) (by kernel_rfl) (panicD_put rfl (by decide) (by decide) _) (Or.inl ⟨by rfl, ?_⟩) (by assumption) ?_
  rotate_left
  · (intro w hSw; (try dsimp only at hSw); go_simp <;> rfl)
  simp only [Act.put, List.getElem_toArray, List.getElem_cons_zero, List.getElem_cons_succ, List.setIfInBounds_toArray, List.set_cons_zero, List.set_cons_succ]
  refine wpAnyH_take (i := 8) (oi := _) (v := ?_) rfl (by kernel_rfl) (by kernel_rfl) (by kernel_rfl) (panicD_put rfl (by decide) (by decide) _) (Or.inl ⟨by rfl, ?_⟩) (by assumption) ?_
  rotate_left
  · (intro w hSw; (try dsimp only at hSw); go_simp <;> rfl)
  simp only [Act.put, List.getElem_toArray, List.getElem_cons_zero, List.getElem_cons_succ, List.setIfInBounds_toArray, List.set_cons_zero, List.set_cons_succ]
  refine wpAnyH_ready (rs := [6]) (by kernel_rfl) (by simp) (AllReadyH.cons (i := 6) (o := _) rfl (fun K1 hK1 => ?_) AllReadyH.nil)
  simp only [List.getElem_toArray, List.getElem_cons_zero, List.getElem_cons_succ]
  go_simp
  refine (cs.out).mono ?_
  rintro e w3 ⟨rfl, H3, hV3, M3⟩
  exact (D2.out.move hV3 M3).gave ⟨a, b, c⟩ (vres rfl rfl rfl) (fun w5 D => D.vend 0)
set_option maxRecDepth 20000 in
set_option maxHeartbeats 2000000 in
theorem load_ok (hV : Vm w vb places n H R) (hC : CpuAt w cb C) (hcb : ¬ H cb) (seg : Int) (off : Nat) (size : Int) (ho : off < 4294967296) (hnb : (n + 2) * 12 ≤ 140737488355328) {s : SpanS} {R' : RS} (h : sg R C seg off size false = (.ok s, R')) :
    Calls Try.prog 13 #[.pointer (some ⟨vb, 0, none⟩), .pointer (some ⟨cb, 0, none⟩), .int .i64 seg, .int .u32 (off : Nat), .int .i64 size] w (VEnd w vb places n H (ld R C seg off size)) := by
  rw [show ld R C seg off size = ((getN R' s (s.n0 + s.n1), noF), R') by unfold ld; rw [h]; rfl]
  have hs := (sg_fits hV.wide hC.1 h).1
  have HS := Lib.hid hs
  have HV := Lib.hid hV
  have HC := Lib.hid hC
  have HCB := Lib.hid hcb
  have HN := Lib.hid hnb
  have HH := Lib.hid h
  clear hV hC hcb hnb h hs
  go_enter_defers Try.func13, Try.ntmps13
  go_wp2_with fail
  refine (none_any _).mono ?_
  rintro e w1 ⟨rfl, hb1⟩
  have D1 := (Door.start HV.out).below hb1
  have D2 := Lib.hid ((D1.set noF).below (Below.refl _ _).drew)
  obtain ⟨c0, c1, c2, cf, cl⟩ := D1.facts
  clear hb1 D1
  go_upto_region 3 with (fail)
  change Code.wp _ _ _ _ (sets3 w1 w.heap.size (.int .i64 noF.vec) (.int .i64 noF.cd) (.int .u32 (noF.cr2 : Nat)))
  clear c0 c1 c2 cf cl
  generalize sets3 w1 w.heap.size (.int .i64 noF.vec) (.int .i64 noF.cd) (.int .u32 (noF.cr2 : Nat)) = w2 at *
  generalize hG : w.heap.size = g at *
  clear hG
  have HCw := Lib.hid (D2.out.cpu HC.out HCB.out)
  have cs := Lib.hid (segment_got D2.out.vm HCw.out.1 HCw.out.2 seg off size ho false HN.out HH.out)
  obtain ⟨c0, c1, c2, cf, cl⟩ := D2.out.facts
  go_region_held3 (fun w' => w'.cell? ⟨g, 0, none⟩ = some (.int .i64 noF.vec) ∧ w'.cell? ⟨g, 1, none⟩ = some (.int .i64 noF.cd) ∧ w'.cell? ⟨g, 2, none⟩ = some (.int .u32 (noF.cr2 : Nat)))
    (first | exact ⟨c0, c1, c2⟩ | exact ⟨q0, q1, q2⟩ | exact ⟨p0, p1, p2⟩ | exact ⟨x0, x1, x2⟩)
    (first
    | (go_at_call 33; refine (cs.out).mono ?_; rintro e w3 ⟨rfl, H3, hV3, M3⟩; have D3 := Lib.hid (D2.out.move hV3 M3); obtain ⟨q0, q1, q2, qf, ql⟩ := D3.out.facts; clear hV3 M3)
    | (go_at_call 32; refine (get_span D3.out.vm HS.out).mono ?_; rintro e w4 ⟨rfl, hb4⟩; have D4 := Lib.hid (D3.out.below hb4); obtain ⟨p0, p1, p2, pf, pl⟩ := D4.out.facts; have D5 := Lib.hid (D4.out.set noF); obtain ⟨x0, x1, x2, -, -⟩ := D5.out.facts; clear hb4))
  all_goals
    go_wp2_with fail
    exact D5.out.idle (vres rfl rfl rfl) (fun w5 D => D.vend _)
/-- Load. -/
theorem load_any (hV : Vm w vb places n H R) (hC : CpuAt w cb C) (hcb : ¬ H cb) (seg : Int) (off : Nat) (size : Int) (ho : off < 4294967296) (hnb : (n + 2) * 12 ≤ 140737488355328) :
    Calls Try.prog 13 #[.pointer (some ⟨vb, 0, none⟩), .pointer (some ⟨cb, 0, none⟩), .int .i64 seg, .int .u32 (off : Nat), .int .i64 size] w (VEnd w vb places n H (ld R C seg off size)) := by
  obtain ⟨⟨a, R'⟩, h⟩ : ∃ r, sg R C seg off size false = r := ⟨_, rfl⟩
  cases a with
  | ok s => exact load_ok hV hC hcb seg off size ho hnb h
  | no a b c => exact load_no hV hC hcb seg off size ho hnb h
end
end Go.Proofs.Ytknokiadbkgmaaa

/- vmem: Check, SetSys, Sys. -/
namespace Go.Proofs.Ytknokiadbkgmaaa
open Go.RowKit Go.MapKept
set_option linter.unusedVariables false
set_option linter.unusedSimpArgs false
attribute [local go_sem ↓] Go.wp_at_zero Go.wp_at_succ

/-- Check, in plain words. -/
def ckOf : SegGot × RS → FaultS × RS
  | (.ok s, R') => (noF, R')
  | (.no a b c, R') => (⟨a, b, c⟩, R')
def ck (R : RS) (C : CpuS) (seg : Int) (off : Nat) (size : Int) : FaultS × RS := ckOf (sg R C seg off size true)
/-- For the processor itself. -/
def sy (R : RS) (C : CpuS) (lin : Nat) (size : Int) (wr : Bool) : SegGot × RS :=
  if isSize size then (SegGot.of (pg R C lin size.toNat wr false).1, (pg R C lin size.toNat wr false).2) else (.no 13 0 0, R)
def stOf (v : Nat) : SegGot × RS → FaultS × RS
  | (.ok s, R') => (noF, putN R' s v (s.n0 + s.n1))
  | (.no a b c, R') => (⟨a, b, c⟩, R')
theorem sy_yes {R : RS} {C : CpuS} {lin size : Nat} {wr : Bool} (hs : size = 1 ∨ size = 2 ∨ size = 4) : sy R C lin (size : Int) wr = (SegGot.of (pg R C lin size wr false).1, (pg R C lin size wr false).2) := by
  unfold sy
  rw [if_pos (show isSize (size : Int) by unfold isSize; omega)]
  rfl
theorem sy_not {R : RS} {C : CpuS} {lin : Nat} {size : Int} {wr : Bool} (hs : ¬ isSize size) : sy R C lin size wr = (.no 13 0 0, R) := by unfold sy; rw [if_neg hs]
section
variable {w w1 w' w2 : World} {vb cb : Nat} {places : Pl} {n n' g : Nat} {H H' H1 H2 : Nat → Prop} {R R' : RS} {C : CpuS} {f f' : FaultS}
set_option maxRecDepth 20000 in
set_option maxHeartbeats 2000000 in
theorem check_ok (hV : Vm w vb places n H R) (hC : CpuAt w cb C) (hcb : ¬ H cb) (seg : Int) (off : Nat) (size : Int) (ho : off < 4294967296) (hnb : (n + 2) * 12 ≤ 140737488355328) {s : SpanS} {R' : RS} (h : sg R C seg off size true = (.ok s, R')) :
    Calls Try.prog 18 #[.pointer (some ⟨vb, 0, none⟩), .pointer (some ⟨cb, 0, none⟩), .int .i64 seg, .int .u32 (off : Nat), .int .i64 size] w (FEnd w vb places n H (ck R C seg off size)) := by
  rw [show ck R C seg off size = (noF, R') by unfold ck; rw [h]; rfl]
  have HV := Lib.hid hV
  have HC := Lib.hid hC
  have HCB := Lib.hid hcb
  have HN := Lib.hid hnb
  have HH := Lib.hid h
  clear hV hC hcb hnb h
  go_enter_defers Try.func18, Try.ntmps18
  go_wp2_with fail
  refine (none_any _).mono ?_
  rintro e w1 ⟨rfl, hb1⟩
  have D1 := (Door.start HV.out).below hb1
  have D2 := Lib.hid (D1.set noF)
  obtain ⟨c0, c1, c2, cf, cl⟩ := D1.facts
  clear hb1 D1
  go_upto_region 2 with (fail)
  change Code.wp _ _ _ _ (sets3 w1 w.heap.size (.int .i64 noF.vec) (.int .i64 noF.cd) (.int .u32 (noF.cr2 : Nat)))
  clear c0 c1 c2 cf cl
  generalize sets3 w1 w.heap.size (.int .i64 noF.vec) (.int .i64 noF.cd) (.int .u32 (noF.cr2 : Nat)) = w2 at *
  generalize hG : w.heap.size = g at *
  clear hG
  have HCw := Lib.hid (D2.out.cpu HC.out HCB.out)
  go_wp2_with fail
  refine (segment_got D2.out.vm HCw.out.1 HCw.out.2 seg off size ho true HN.out HH.out).mono ?_
  rintro e w3 ⟨rfl, H3, hV3, M3⟩
  have D4 := Lib.hid (D2.out.move hV3 M3)
  clear hV3 M3 D2
  obtain ⟨c0, c1, c2, cf, cl⟩ := D4.out.facts
  go_wp2_with fail
  exact (D4.out.set noF).idle (fres rfl rfl) (fun w5 D => D.fend)
set_option maxRecDepth 20000 in
set_option maxHeartbeats 2000000 in
theorem check_no (hV : Vm w vb places n H R) (hC : CpuAt w cb C) (hcb : ¬ H cb) (seg : Int) (off : Nat) (size : Int) (ho : off < 4294967296) (hnb : (n + 2) * 12 ≤ 140737488355328) {a b : Int} {c : Nat} {R' : RS} (h : sg R C seg off size true = (.no a b c, R')) :
    Calls Try.prog 18 #[.pointer (some ⟨vb, 0, none⟩), .pointer (some ⟨cb, 0, none⟩), .int .i64 seg, .int .u32 (off : Nat), .int .i64 size] w (FEnd w vb places n H (ck R C seg off size)) := by
  rw [show ck R C seg off size = (⟨a, b, c⟩, R') by unfold ck; rw [h]; rfl]
  have HV := Lib.hid hV
  have HC := Lib.hid hC
  have HCB := Lib.hid hcb
  have HN := Lib.hid hnb
  have HH := Lib.hid h
  clear hV hC hcb hnb h
  go_enter_defers Try.func18, Try.ntmps18
  go_wp2_with fail
  refine (none_any _).mono ?_
  rintro e w1 ⟨rfl, hb1⟩
  have D1 := (Door.start HV.out).below hb1
  have D2 := Lib.hid (D1.set noF)
  obtain ⟨c0, c1, c2, cf, cl⟩ := D1.facts
  clear hb1 D1
  go_upto_region 2 with (fail)
  change Code.wp _ _ _ _ (sets3 w1 w.heap.size (.int .i64 noF.vec) (.int .i64 noF.cd) (.int .u32 (noF.cr2 : Nat)))
  clear c0 c1 c2 cf cl
  generalize sets3 w1 w.heap.size (.int .i64 noF.vec) (.int .i64 noF.cd) (.int .u32 (noF.cr2 : Nat)) = w2 at *
  generalize hG : w.heap.size = g at *
  clear hG
  have HCw := Lib.hid (D2.out.cpu HC.out HCB.out)
  go_wp2_with fail
  refine (segment_gave D2.out.vm HCw.out.1 HCw.out.2 seg off size ho true HN.out HH.out).mono ?_
  rintro e w3 ⟨rfl, H3, hV3, M3⟩
  exact (D2.out.move hV3 M3).gave ⟨a, b, c⟩ (fres rfl rfl) (fun w5 D => D.fend)
/-- Check. -/
theorem check_any (hV : Vm w vb places n H R) (hC : CpuAt w cb C) (hcb : ¬ H cb) (seg : Int) (off : Nat) (size : Int) (ho : off < 4294967296) (hnb : (n + 2) * 12 ≤ 140737488355328) :
    Calls Try.prog 18 #[.pointer (some ⟨vb, 0, none⟩), .pointer (some ⟨cb, 0, none⟩), .int .i64 seg, .int .u32 (off : Nat), .int .i64 size] w (FEnd w vb places n H (ck R C seg off size)) := by
  obtain ⟨⟨a, R'⟩, h⟩ : ∃ r, sg R C seg off size true = r := ⟨_, rfl⟩
  cases a with
  | ok s => exact check_ok hV hC hcb seg off size ho hnb h
  | no a b c => exact check_no hV hC hcb seg off size ho hnb h
set_option maxRecDepth 20000 in
set_option maxHeartbeats 2000000 in
theorem setsys_bad (hV : Vm w vb places n H R) (hC : CpuAt w cb C) (hcb : ¬ H cb) (lin : Nat) (hl : lin < 4294967296) (size : Int) (v : Nat) (h : ¬ isSize size) (hnb : (n + 2) * 12 ≤ 140737488355328) :
    Calls Try.prog 16 #[.pointer (some ⟨vb, 0, none⟩), .pointer (some ⟨cb, 0, none⟩), .int .u32 (lin : Nat), .int .i64 size, .int .u32 (v : Nat)] w (FEnd w vb places n H (stOf v (sy R C lin size true))) := by
  rw [sy_not h]
  have HV := Lib.hid hV
  have HC := Lib.hid hC
  have HCB := Lib.hid hcb
  have HN := Lib.hid hnb
  have cz := Lib.hid (fun W => sized_bad (some ⟨vb, 0, none⟩) (some ⟨cb, 0, none⟩) size (fun e => h (.inl e)) (fun e => h (.inr (.inl e))) (fun e => h (.inr (.inr e))) W)
  clear hV hC hcb hnb h
  go_enter_defers Try.func16, Try.ntmps16
  go_wp2_with fail
  refine (none_any _).mono ?_
  rintro e w1 ⟨rfl, hb1⟩
  have D1 := (Door.start HV.out).below hb1
  have D2 := Lib.hid (D1.set noF)
  obtain ⟨c0, c1, c2, cf, cl⟩ := D1.facts
  clear hb1 D1
  go_upto_region 2 with (fail)
  change Code.wp _ _ _ _ (sets3 w1 w.heap.size (.int .i64 noF.vec) (.int .i64 noF.cd) (.int .u32 (noF.cr2 : Nat)))
  clear c0 c1 c2 cf cl
  generalize sets3 w1 w.heap.size (.int .i64 noF.vec) (.int .i64 noF.cd) (.int .u32 (noF.cr2 : Nat)) = w2 at *
  generalize hG : w.heap.size = g at *
  clear hG
  have HCw := Lib.hid (D2.out.cpu HC.out HCB.out)
  go_wp2_with fail
  refine (cz.out _).mono ?_
  rintro e w3 ⟨rfl, rfl⟩
  obtain ⟨H9, hV9, M9⟩ : ∃ H9, Vm w2 vb places (n + 2) H9 R ∧ Moves H H9 w2 w2 := ⟨H, D2.out.vm.more (by omega), Keeps.refl _ _, fun k h => .inl h⟩
  exact (D2.out.move hV9 M9).gave ⟨13, 0, 0⟩ (fres rfl rfl) (fun w5 D => D.fend)
set_option maxRecDepth 20000 in
set_option maxHeartbeats 2000000 in
theorem sys_bad (hV : Vm w vb places n H R) (hC : CpuAt w cb C) (hcb : ¬ H cb) (lin : Nat) (hl : lin < 4294967296) (size : Int) (h : ¬ isSize size) (hnb : (n + 2) * 12 ≤ 140737488355328) :
    Calls Try.prog 17 #[.pointer (some ⟨vb, 0, none⟩), .pointer (some ⟨cb, 0, none⟩), .int .u32 (lin : Nat), .int .i64 size] w (VEnd w vb places n H (ldOf (sy R C lin size false))) := by
  rw [sy_not h]
  have HV := Lib.hid hV
  have HC := Lib.hid hC
  have HCB := Lib.hid hcb
  have HN := Lib.hid hnb
  have cz := Lib.hid (fun W => sized_bad (some ⟨vb, 0, none⟩) (some ⟨cb, 0, none⟩) size (fun e => h (.inl e)) (fun e => h (.inr (.inl e))) (fun e => h (.inr (.inr e))) W)
  clear hV hC hcb hnb h
  go_enter_defers Try.func17, Try.ntmps17
  go_wp2_with fail
  refine (none_any _).mono ?_
  rintro e w1 ⟨rfl, hb1⟩
  have D1 := (Door.start HV.out).below hb1
  have D2 := Lib.hid (D1.set noF)
  obtain ⟨c0, c1, c2, cf, cl⟩ := D1.facts
  clear hb1 D1
  go_upto_region 2 with (fail)
  change Code.wp _ _ _ _ (sets3 w1 w.heap.size (.int .i64 noF.vec) (.int .i64 noF.cd) (.int .u32 (noF.cr2 : Nat)))
  clear c0 c1 c2 cf cl
  generalize sets3 w1 w.heap.size (.int .i64 noF.vec) (.int .i64 noF.cd) (.int .u32 (noF.cr2 : Nat)) = w2 at *
  generalize hG : w.heap.size = g at *
  clear hG
  have HCw := Lib.hid (D2.out.cpu HC.out HCB.out)
  go_wp2_with fail
  refine (cz.out _).mono ?_
  rintro e w3 ⟨rfl, rfl⟩
  obtain ⟨H9, hV9, M9⟩ : ∃ H9, Vm w2 vb places (n + 2) H9 R ∧ Moves H H9 w2 w2 := ⟨H, D2.out.vm.more (by omega), Keeps.refl _ _, fun k h => .inl h⟩
  exact (D2.out.move hV9 M9).gave ⟨13, 0, 0⟩ (vres rfl rfl rfl) (fun w5 D => D.vend 0)
set_option maxRecDepth 20000 in
set_option maxHeartbeats 2000000 in
theorem setsys_ok (hV : Vm w vb places n H R) (hC : CpuAt w cb C) (hcb : ¬ H cb) (lin : Nat) (hl : lin < 4294967296) (size : Nat) (hs : size = 1 ∨ size = 2 ∨ size = 4) (v : Nat) (hv : v < 4294967296) {s : SpanS} {R' : RS} (hp : pg R C lin size true false = (.ok s, R')) (hnb : (n + 2) * 12 ≤ 140737488355328) :
    Calls Try.prog 16 #[.pointer (some ⟨vb, 0, none⟩), .pointer (some ⟨cb, 0, none⟩), .int .u32 (lin : Nat), .int .i64 (size : Nat), .int .u32 (v : Nat)] w (FEnd w vb places n H (stOf v (sy R C lin (size : Int) true))) := by
  rw [show sy R C lin (size : Int) true = (.ok s, R') by rw [sy_yes hs, hp]; rfl]
  have HV := Lib.hid hV
  have HC := Lib.hid hC
  have HCB := Lib.hid hcb
  have HN := Lib.hid hnb
  have HP := Lib.hid hp
  have HS := Lib.hid hs
  have HF := Lib.hid (pg_fits hV.wide hl (by omega) hC.1.cr3 hp).1
  have cz := Lib.hid (fun W => sized_ok vb cb (size : Int) (by omega) W)
  clear hV hC hcb hnb hp hs
  go_enter_defers Try.func16, Try.ntmps16
  go_wp2_with fail
  refine (none_any _).mono ?_
  rintro e w1 ⟨rfl, hb1⟩
  have D1 := (Door.start HV.out).below hb1
  have D2 := Lib.hid (D1.set noF)
  obtain ⟨c0, c1, c2, cf, cl⟩ := D1.facts
  clear hb1 D1
  go_upto_region 2 with (fail)
  change Code.wp _ _ _ _ (sets3 w1 w.heap.size (.int .i64 noF.vec) (.int .i64 noF.cd) (.int .u32 (noF.cr2 : Nat)))
  clear c0 c1 c2 cf cl
  generalize sets3 w1 w.heap.size (.int .i64 noF.vec) (.int .i64 noF.cd) (.int .u32 (noF.cr2 : Nat)) = w2 at *
  generalize hG : w.heap.size = g at *
  clear hG
  have HCw := Lib.hid (D2.out.cpu HC.out HCB.out)
  go_wp2_with (go_at_call 34; refine (cz.out _).mono ?_; rintro e w' ⟨rfl, rfl⟩)
  refine (pages_ok D2.out.vm HCw.out.1 HCw.out.2 lin size hl HS.out true false false HN.out _ _ rfl rfl (by rw [HP.out])).mono ?_
  rintro e w3 ⟨rfl, H3, hV3, M3⟩
  rw [HP.out] at hV3
  have D3 := Lib.hid (D2.out.move hV3 M3)
  clear hV3 M3 D2
  go_wp2_with fail
  refine (put_span D3.out.vm HF.out v hv).mono ?_
  rintro e w4 ⟨rfl, H4, hV4, M4⟩
  have D4 := Lib.hid (D3.out.move hV4 M4)
  clear hV4 M4 D3
  obtain ⟨c0, c1, c2, cf, cl⟩ := D4.out.facts
  go_wp2_with fail
  exact (D4.out.set noF).idle (fres rfl rfl) (fun w5 D => D.fend)
set_option maxRecDepth 20000 in
set_option maxHeartbeats 2000000 in
theorem setsys_no (hV : Vm w vb places n H R) (hC : CpuAt w cb C) (hcb : ¬ H cb) (lin : Nat) (hl : lin < 4294967296) (size : Nat) (hs : size = 1 ∨ size = 2 ∨ size = 4) (v : Nat) {cd : Int} {a : Nat} {R' : RS} (hp : pg R C lin size true false = (.fault cd a, R')) (hnb : (n + 2) * 12 ≤ 140737488355328) :
    Calls Try.prog 16 #[.pointer (some ⟨vb, 0, none⟩), .pointer (some ⟨cb, 0, none⟩), .int .u32 (lin : Nat), .int .i64 (size : Nat), .int .u32 (v : Nat)] w (FEnd w vb places n H (stOf v (sy R C lin (size : Int) true))) := by
  rw [show sy R C lin (size : Int) true = (.no 14 cd a, R') by rw [sy_yes hs, hp]; rfl]
  have HV := Lib.hid hV
  have HC := Lib.hid hC
  have HCB := Lib.hid hcb
  have HN := Lib.hid hnb
  have HP := Lib.hid hp
  have HS := Lib.hid hs
  have cz := Lib.hid (fun W => sized_ok vb cb (size : Int) (by omega) W)
  clear hV hC hcb hnb hp hs
  go_enter_defers Try.func16, Try.ntmps16
  go_wp2_with fail
  refine (none_any _).mono ?_
  rintro e w1 ⟨rfl, hb1⟩
  have D1 := (Door.start HV.out).below hb1
  have D2 := Lib.hid (D1.set noF)
  obtain ⟨c0, c1, c2, cf, cl⟩ := D1.facts
  clear hb1 D1
  go_upto_region 2 with (fail)
  change Code.wp _ _ _ _ (sets3 w1 w.heap.size (.int .i64 noF.vec) (.int .i64 noF.cd) (.int .u32 (noF.cr2 : Nat)))
  clear c0 c1 c2 cf cl
  generalize sets3 w1 w.heap.size (.int .i64 noF.vec) (.int .i64 noF.cd) (.int .u32 (noF.cr2 : Nat)) = w2 at *
  generalize hG : w.heap.size = g at *
  clear hG
  have HCw := Lib.hid (D2.out.cpu HC.out HCB.out)
  go_wp2_with (go_at_call 34; refine (cz.out _).mono ?_; rintro e w' ⟨rfl, rfl⟩)
  refine (pages_no D2.out.vm HCw.out.1 HCw.out.2 lin size hl HS.out true false false HN.out _ _ rfl rfl (by rw [HP.out])).mono ?_
  rintro e w3 ⟨rfl, H3, hV3, M3⟩
  rw [HP.out] at hV3
  exact (D2.out.move hV3 M3).gave ⟨14, cd, a⟩ (fres rfl rfl) (fun w5 D => D.fend)
end
end Go.Proofs.Ytknokiadbkgmaaa

/- vmem: Sys. -/
namespace Go.Proofs.Ytknokiadbkgmaaa
open Go.RowKit Go.MapKept
set_option linter.unusedVariables false
set_option linter.unusedSimpArgs false
attribute [local go_sem ↓] Go.wp_at_zero Go.wp_at_succ

section
variable {w w1 w' w2 : World} {vb cb : Nat} {places : Pl} {n n' g : Nat} {H H' H1 H2 : Nat → Prop} {R R' : RS} {C : CpuS} {f f' : FaultS}
set_option maxRecDepth 20000 in
set_option maxHeartbeats 2000000 in
theorem sys_ok (hV : Vm w vb places n H R) (hC : CpuAt w cb C) (hcb : ¬ H cb) (lin : Nat) (hl : lin < 4294967296) (size : Nat) (hs : size = 1 ∨ size = 2 ∨ size = 4) {s : SpanS} {R' : RS} (hp : pg R C lin size false false = (.ok s, R')) (hnb : (n + 2) * 12 ≤ 140737488355328) :
    Calls Try.prog 17 #[.pointer (some ⟨vb, 0, none⟩), .pointer (some ⟨cb, 0, none⟩), .int .u32 (lin : Nat), .int .i64 (size : Nat)] w (VEnd w vb places n H (ldOf (sy R C lin (size : Int) false))) := by
  rw [show sy R C lin (size : Int) false = (.ok s, R') by rw [sy_yes hs, hp]; rfl]
  have HV := Lib.hid hV
  have HC := Lib.hid hC
  have HCB := Lib.hid hcb
  have HN := Lib.hid hnb
  have HP := Lib.hid hp
  have HS := Lib.hid hs
  have HF := Lib.hid (pg_fits hV.wide hl (by omega) hC.1.cr3 hp).1
  have cz := Lib.hid (fun W => sized_ok vb cb (size : Int) (by omega) W)
  clear hV hC hcb hnb hp hs
  go_enter_defers Try.func17, Try.ntmps17
  go_wp2_with fail
  refine (none_any _).mono ?_
  rintro e w1 ⟨rfl, hb1⟩
  have D1 := (Door.start HV.out).below hb1
  have D2 := Lib.hid ((D1.set noF).below (Below.refl _ _).drew)
  obtain ⟨c0, c1, c2, cf, cl⟩ := D1.facts
  clear hb1 D1
  go_upto_region 4 with (go_at_call 34; refine (cz.out _).mono ?_; rintro e w' ⟨rfl, rfl⟩)
  change Code.wp _ _ _ _ (sets3 w1 w.heap.size (.int .i64 noF.vec) (.int .i64 noF.cd) (.int .u32 (noF.cr2 : Nat)))
  clear c0 c1 c2 cf cl
  generalize sets3 w1 w.heap.size (.int .i64 noF.vec) (.int .i64 noF.cd) (.int .u32 (noF.cr2 : Nat)) = w2 at *
  generalize hG : w.heap.size = g at *
  clear hG
  have HCw := Lib.hid (D2.out.cpu HC.out HCB.out)
  have cs := Lib.hid (pages_ok D2.out.vm HCw.out.1 HCw.out.2 lin size hl HS.out false false false HN.out _ _ rfl rfl (by rw [HP.out]))
  obtain ⟨c0, c1, c2, cf, cl⟩ := D2.out.facts
  go_region_held3 (fun w' => w'.cell? ⟨g, 0, none⟩ = some (.int .i64 noF.vec) ∧ w'.cell? ⟨g, 1, none⟩ = some (.int .i64 noF.cd) ∧ w'.cell? ⟨g, 2, none⟩ = some (.int .u32 (noF.cr2 : Nat)))
    (first | exact ⟨c0, c1, c2⟩ | exact ⟨q0, q1, q2⟩ | exact ⟨p0, p1, p2⟩ | exact ⟨x0, x1, x2⟩)
    (first
    | (go_at_call 36; refine (cs.out).mono ?_; rintro e w3 ⟨rfl, H3, hV3, M3⟩; rw [HP.out] at hV3; have D3 := Lib.hid (D2.out.move hV3 M3); obtain ⟨q0, q1, q2, qf, ql⟩ := D3.out.facts; clear hV3 M3)
    | (go_at_call 32; refine (get_span D3.out.vm HF.out).mono ?_; rintro e w4 ⟨rfl, hb4⟩; have D4 := Lib.hid (D3.out.below hb4); obtain ⟨p0, p1, p2, pf, pl⟩ := D4.out.facts; have D5 := Lib.hid (D4.out.set noF); obtain ⟨x0, x1, x2, -, -⟩ := D5.out.facts; clear hb4))
  all_goals
    go_wp2_with fail
    exact D5.out.idle (vres rfl rfl rfl) (fun w5 D => D.vend _)
set_option maxRecDepth 20000 in
set_option maxHeartbeats 2000000 in
theorem sys_no (hV : Vm w vb places n H R) (hC : CpuAt w cb C) (hcb : ¬ H cb) (lin : Nat) (hl : lin < 4294967296) (size : Nat) (hs : size = 1 ∨ size = 2 ∨ size = 4) {cd : Int} {a : Nat} {R' : RS} (hp : pg R C lin size false false = (.fault cd a, R')) (hnb : (n + 2) * 12 ≤ 140737488355328) :
    Calls Try.prog 17 #[.pointer (some ⟨vb, 0, none⟩), .pointer (some ⟨cb, 0, none⟩), .int .u32 (lin : Nat), .int .i64 (size : Nat)] w (VEnd w vb places n H (ldOf (sy R C lin (size : Int) false))) := by
  rw [show sy R C lin (size : Int) false = (.no 14 cd a, R') by rw [sy_yes hs, hp]; rfl]
  have HV := Lib.hid hV
  have HC := Lib.hid hC
  have HCB := Lib.hid hcb
  have HN := Lib.hid hnb
  have HP := Lib.hid hp
  have HS := Lib.hid hs
  have cz := Lib.hid (fun W => sized_ok vb cb (size : Int) (by omega) W)
  clear hV hC hcb hnb hp hs
  go_enter_defers Try.func17, Try.ntmps17
  go_wp2_with fail
  refine (none_any _).mono ?_
  rintro e w1 ⟨rfl, hb1⟩
  have D1 := (Door.start HV.out).below hb1
  have D2 := Lib.hid ((D1.set noF).below (Below.refl _ _).drew)
  obtain ⟨c0, c1, c2, cf, cl⟩ := D1.facts
  clear hb1 D1
  go_upto_region 4 with (go_at_call 34; refine (cz.out _).mono ?_; rintro e w' ⟨rfl, rfl⟩)
  change Code.wp _ _ _ _ (sets3 w1 w.heap.size (.int .i64 noF.vec) (.int .i64 noF.cd) (.int .u32 (noF.cr2 : Nat)))
  clear c0 c1 c2 cf cl
  generalize sets3 w1 w.heap.size (.int .i64 noF.vec) (.int .i64 noF.cd) (.int .u32 (noF.cr2 : Nat)) = w2 at *
  generalize hG : w.heap.size = g at *
  clear hG
  have HCw := Lib.hid (D2.out.cpu HC.out HCB.out)
  have cs := Lib.hid (pages_no D2.out.vm HCw.out.1 HCw.out.2 lin size hl HS.out false false false HN.out _ _ rfl rfl (by rw [HP.out]))
  obtain ⟨c0, c1, c2, -, -⟩ := D2.out.facts
  refine wp_region_held_drew (S := fun w' => w'.cell? ⟨g, 0, none⟩ = some (.int .i64 noF.vec) ∧ w'.cell? ⟨g, 1, none⟩ = some (.int .i64 noF.cd) ∧ w'.cell? ⟨g, 2, none⟩ = some (.int .u32 (noF.cr2 : Nat))) (by kernel_rfl) ⟨c0, c1, c2⟩ (fun hHeld => ?_)
  clear c0 c1 c2
  refine wpAnyH_take (i := 0) (oi := _) (v := ?_) rfl (by kernel_rfl) (by kernel_rfl) (by kernel_rfl) (panicD_put rfl (by decide) (by decide) _) (Or.inl ⟨by rfl, ?_⟩) (by assumption) ?_
  rotate_left
  · (intro w hSw; (try dsimp only at hSw); go_simp <;> rfl)
  simp only [Act.put, List.getElem_toArray, List.getElem_cons_zero, List.getElem_cons_succ, List.setIfInBounds_toArray, List.set_cons_zero, List.set_cons_succ]
  refine wpAnyH_take (i := 1) (oi := _) (v := ?_) rfl (by kernel_rfl) (by kernel_rfl) (by kernel_rfl) (panicD_put rfl (by decide) (by decide) _) (Or.inl ⟨by rfl, ?_⟩) (by assumption) ?_
  rotate_left
  · (intro w hSw; (try dsimp only at hSw); go_simp <;> rfl)
  simp only [Act.put, List.getElem_toArray, List.getElem_cons_zero, List.getElem_cons_succ, List.setIfInBounds_toArray, List.set_cons_zero, List.set_cons_succ]
  refine wpAnyH_take (i := 2) (oi := _) (v := ?_) rfl (by kernel_rfl) (by kernel_rfl) (by kernel_rfl) (panicD_put rfl (by decide) (by decide) _) (Or.inl ⟨by rfl, ?_⟩) (by assumption) ?_
  rotate_left
  · (intro w hSw; (try dsimp only at hSw); go_simp <;> rfl)
  simp only [Act.put, List.getElem_toArray, List.getElem_cons_zero, List.getElem_cons_succ, List.setIfInBounds_toArray, List.set_cons_zero, List.set_cons_succ]
  refine wpAnyH_take (i := 3) (oi := _) (v := ?_) rfl (by kernel_rfl) (by kernel_rfl) (by kernel_rfl) (panicD_put rfl (by decide) (by decide) _) (Or.inl ⟨by rfl, ?_⟩) (by assumption) ?_
  rotate_left
  · (intro w hSw; (try dsimp only at hSw); go_simp <;> rfl)
  simp only [Act.put, List.getElem_toArray, List.getElem_cons_zero, List.getElem_cons_succ, List.setIfInBounds_toArray, List.set_cons_zero, List.set_cons_succ]
  refine wpAnyH_take (i := 4) (oi := _) (v := ?_) rfl (by kernel_rfl) (by kernel_rfl) (by kernel_rfl) (panicD_put rfl (by decide) (by decide) _) (Or.inl ⟨by rfl, ?_⟩) (by assumption) ?_
  rotate_left
  · (intro w hSw; (try dsimp only at hSw); go_simp <;> rfl)
  simp only [Act.put, List.getElem_toArray, List.getElem_cons_zero, List.getElem_cons_succ, List.setIfInBounds_toArray, List.set_cons_zero, List.set_cons_succ]
  refine wpAnyH_take (i := 5) (oi := _) (v := ?_) rfl (by kernel_rfl) (by kernel_rfl) (by kernel_rfl) (panicD_put rfl (by decide) (by decide) _) (Or.inl ⟨by rfl, ?_⟩) (by assumption) ?_
  rotate_left
  · (intro w hSw; (try dsimp only at hSw); go_simp <;> rfl)
  simp only [Act.put, List.getElem_toArray, List.getElem_cons_zero, List.getElem_cons_succ, List.setIfInBounds_toArray, List.set_cons_zero, List.set_cons_succ]
  refine wpAnyH_take (i := 8) (oi := _) (v := ?_) rfl (by kernel_rfl) (by kernel_rfl) (by kernel_rfl) (panicD_put rfl (by decide) (by decide) _) (Or.inl ⟨by rfl, ?_⟩) (by assumption) ?_
  rotate_left
  · (intro w hSw; (try dsimp only at hSw); go_simp <;> rfl)
  simp only [Act.put, List.getElem_toArray, List.getElem_cons_zero, List.getElem_cons_succ, List.setIfInBounds_toArray, List.set_cons_zero, List.set_cons_succ]
  refine wpAnyH_ready (rs := [6]) (by kernel_rfl) (by simp) (AllReadyH.cons (i := 6) (o := _) rfl (fun K1 hK1 => ?_) AllReadyH.nil)
  simp only [List.getElem_toArray, List.getElem_cons_zero, List.getElem_cons_succ]
  go_simp
  refine (cs.out).mono ?_
  rintro e w3 ⟨rfl, H3, hV3, M3⟩
  rw [HP.out] at hV3
  exact (D2.out.move hV3 M3).gave ⟨14, cd, a⟩ (vres rfl rfl rfl) (fun w5 D => D.vend 0)
theorem pg_cases (R : RS) (C : CpuS) (lin size : Nat) (wr us : Bool) : (∃ s R', pg R C lin size wr us = (.ok s, R')) ∨ (∃ cd a R', pg R C lin size wr us = (.fault cd a, R')) := by
  obtain ⟨⟨a, R'⟩, h⟩ : ∃ r, pg R C lin size wr us = r := ⟨_, rfl⟩
  cases a with
  | ok s => exact .inl ⟨s, R', h⟩
  | fault cd a => exact .inr ⟨cd, a, R', h⟩
/-- Sys. -/
theorem sys_any (hV : Vm w vb places n H R) (hC : CpuAt w cb C) (hcb : ¬ H cb) (lin : Nat) (hl : lin < 4294967296) (size : Int) (hnb : (n + 2) * 12 ≤ 140737488355328) :
    Calls Try.prog 17 #[.pointer (some ⟨vb, 0, none⟩), .pointer (some ⟨cb, 0, none⟩), .int .u32 (lin : Nat), .int .i64 size] w (VEnd w vb places n H (ldOf (sy R C lin size false))) := by
  by_cases hs : isSize size
  · obtain ⟨k, rfl⟩ : ∃ k : Nat, size = k := ⟨size.toNat, by rcases hs with rfl | rfl | rfl <;> rfl⟩
    have hk : k = 1 ∨ k = 2 ∨ k = 4 := by unfold isSize at hs; omega
    rcases pg_cases R C lin k false false with ⟨s, R', h⟩ | ⟨cd, a, R', h⟩
    · exact sys_ok hV hC hcb lin hl k hk h hnb
    · exact sys_no hV hC hcb lin hl k hk h hnb
  · exact sys_bad hV hC hcb lin hl size hs hnb
/-- SetSys. -/
theorem setsys_any (hV : Vm w vb places n H R) (hC : CpuAt w cb C) (hcb : ¬ H cb) (lin : Nat) (hl : lin < 4294967296) (size : Int) (v : Nat) (hv : v < 4294967296) (hnb : (n + 2) * 12 ≤ 140737488355328) :
    Calls Try.prog 16 #[.pointer (some ⟨vb, 0, none⟩), .pointer (some ⟨cb, 0, none⟩), .int .u32 (lin : Nat), .int .i64 size, .int .u32 (v : Nat)] w (FEnd w vb places n H (stOf v (sy R C lin size true))) := by
  by_cases hs : isSize size
  · obtain ⟨k, rfl⟩ : ∃ k : Nat, size = k := ⟨size.toNat, by rcases hs with rfl | rfl | rfl <;> rfl⟩
    have hk : k = 1 ∨ k = 2 ∨ k = 4 := by unfold isSize at hs; omega
    rcases pg_cases R C lin k true false with ⟨s, R', h⟩ | ⟨cd, a, R', h⟩
    · exact setsys_ok hV hC hcb lin hl k hk v hv h hnb
    · exact setsys_no hV hC hcb lin hl k hk v h hnb
  · exact setsys_bad hV hC hcb lin hl size v hs hnb
end
end Go.Proofs.Ytknokiadbkgmaaa

/- vmem: Code. -/
namespace Go.Proofs.Ytknokiadbkgmaaa
open Go.RowKit Go.MapKept
set_option linter.unusedVariables false
set_option linter.unusedSimpArgs false
attribute [local go_sem ↓] Go.wp_at_zero Go.wp_at_succ

/-- Code, in plain words. -/
def cdOf : PgR × RS → (Nat × Nat × FaultS) × RS
  | (.ok s, R') => ((getN R' s (s.n0 + s.n1), s.a0, noF), R')
  | (.fault cd a, R') => ((0, 0, ⟨14, cd, a⟩), R')
def cdr (R : RS) (C : CpuS) (off : Nat) : (Nat × Nat × FaultS) × RS :=
  if (C.seg 1).lim < off then ((0, 0, ⟨13, 0, 0⟩), R) else cdOf (pg R C (((C.seg 1).base + off) % 4294967296) 1 false C.user)
def CEnd (w : World) (vb : Nat) (places : Pl) (n : Nat) (H : Nat → Prop) (g : (Nat × Nat × FaultS) × RS) (e : Ending) (w' : World) : Prop :=
  e = .returned (.tuple #[.int .u8 (g.1.1 : Nat), .int .u32 (g.1.2.1 : Nat), g.1.2.2.val]) ∧ ∃ H', Vm w' vb places (n + 2) H' g.2 ∧ Moves H H' w w'
theorem results_put3 {fn : Func} {tmps : Array Value} {d a0 a b : Tmp} {T : TypeId} (hf : fn.results = #[.tmp a0, .tmp a, .cell b T]) (h0 : d ≠ a0) (ha : d ≠ a) (hb : d ≠ b) (v : Value) : results fn (tmps.setIfInBounds d v) = results fn tmps := by
  have e0 : (tmps.setIfInBounds d v).getD a0 undef = tmps.getD a0 undef := by simp [h0]
  have e1 : (tmps.setIfInBounds d v).getD a undef = tmps.getD a undef := by simp [ha]
  have e2 : (tmps.setIfInBounds d v).getD b undef = tmps.getD b undef := by simp [hb]
  unfold results
  rw [hf]
  simp only [Array.mapM_eq_mapM_toList, List.mapM_cons, List.mapM_nil, e0, e1, e2]
theorem panicD_put3 {P : Program} {fn : Func} {R : Ending → World → Prop} {K : Act → World → Prop} {d a0 a b : Tmp} {T : TypeId} (hf : fn.results = #[.tmp a0, .tmp a, .cell b T]) (h0 : d ≠ a0) (ha : d ≠ a) (hb : d ≠ b) (v : Value) (c : List PanicEntry) (x : Act) (w : World) (h : Exit.then K (bodyPostD P fn R) (.panic c) (x.put (some d) v) w) : Exit.then K (bodyPostD P fn R) (.panic c) x w := by
  have e := Leaves_congr (P := P) (R := R) (results_put3 (fn := fn) (tmps := x.tmps) hf h0 ha hb v) x.defers (.panicking c) w
  exact e.mp h
section
variable {w w1 w' w2 : World} {vb cb : Nat} {places : Pl} {n n' g : Nat} {H H' H1 H2 : Nat → Prop} {R R' : RS} {C : CpuS} {f f' : FaultS}
theorem Door.cend (h : Door w w1 vb places (n + 2) H H1 R g f) (v a : Nat) : CEnd w vb places n H ((v, a, f), R) (.returned (.tuple #[.int .u8 (v : Nat), .int .u32 (a : Nat), f.val])) w1 := ⟨rfl, H1, h.vm, h.mv⟩
theorem cres {fn : Func} {tmps : Array Value} {d c b : Tmp} {v u : Value} (hf : fn.results = #[.tmp c, .tmp b, .cell d 25]) (hc : tmps.getD c undef = v) (hb : tmps.getD b undef = u) (ht : tmps.getD d undef = .pointer (some ⟨g, 0, none⟩)) (w5 : World) (hx : w5.heap[g]? = some (.cells f.cells 25)) : (results fn tmps).run Try.prog w5 = .ok (.tuple #[v, u, f.val]) w5 := by
  have c0 := cell_at (k := 0) hx
  have c1 := cell_at (k := 1) hx
  have c2 := cell_at (k := 2) hx
  simp [FaultS.cells] at c0 c1 c2
  have ht' : tmps[d]?.getD undef = .pointer (some ⟨g, 0, none⟩) := by simpa using ht
  have hc' : tmps[c]?.getD undef = v := by simpa using hc
  have hb' : tmps[b]?.getD undef = u := by simpa using hb
  simp [results, hf, go_sem, ht', hc', hb', c0, c1, c2, FaultS.val]
theorem cell_alloc_lt {w : World} {b k : Nat} (h : b < w.heap.size) (o : Obj) : (w.alloc o).cell? ⟨b, k, none⟩ = w.cell? ⟨b, k, none⟩ := World.cell?_of_block (a := ⟨b, k, none⟩) (Below.heap_alloc _ _ _ h)
theorem block_sets4 {w : World} {b : Nat} {a0 a1 a2 a3 : Value} {T : TypeId} (h : w.heap[b]? = some (.cells #[a0, a1, a2, a3] T (0, 0))) (v0 v1 v2 v3 : Value) : (sets4 w b v0 v1 v2 v3).heap[b]? = some (.cells #[v0, v1, v2, v3] T (0, 0)) := by
  unfold sets4
  simp only [heap_set_map, putObj_cells, h, Option.map_some, List.set_cons_succ, List.set_cons_zero]
/-- A box beside it is stored into. -/
theorem Door.keepsX {x : Nat} (h : Door w w1 vb places n H H1 R g f) (hk : Keeps (· = x) w1 w') (hx : ¬ H1 x) (hg : x ≠ g) (hn : w.heap.size ≤ x) : Door w w' vb places n H H1 R g f :=
  ⟨h.vm.keeps hk hx, h.mv.setNew hk hn, h.nin, h.new, (hk.block g (heap_lt h.box) (Ne.symm hg)).trans h.box⟩
theorem CpuAt.code {b : Nat} (h : CpuAt w b C) : w.cell? ⟨b, 21, none⟩ = some (.int .u32 ((C.seg 1).base : Nat)) ∧ w.cell? ⟨b, 22, none⟩ = some (.int .u32 ((C.seg 1).lim : Nat)) ∧ b < w.heap.size :=
  ⟨(h.cell 21 (by decide)).trans rfl, (h.cell 22 (by decide)).trans rfl, h.lt⟩
set_option maxRecDepth 20000 in
set_option maxHeartbeats 2000000 in
theorem code_lim (hV : Vm w vb places n H R) (hC : CpuAt w cb C) (hcb : ¬ H cb) (off : Nat) (ho : off < 4294967296) (hnb : (n + 2) * 12 ≤ 140737488355328) (hl : (C.seg 1).lim < off) :
    Calls Try.prog 14 #[.pointer (some ⟨vb, 0, none⟩), .pointer (some ⟨cb, 0, none⟩), .int .u32 (off : Nat)] w (CEnd w vb places n H (cdr R C off)) := by
  rw [show cdr R C off = ((0, 0, ⟨13, 0, 0⟩), R) by unfold cdr; rw [if_pos hl]]
  have HV := Lib.hid hV
  have HC := Lib.hid hC
  have HCB := Lib.hid hcb
  have HN := Lib.hid hnb
  have cz := Lib.hid (fun W => sized_ok vb cb 1 (.inl rfl) W)
  clear hV hC hcb hnb
  go_enter_defers Try.func14, Try.ntmps14
  go_wp2_with fail
  refine (none_any _).mono ?_
  rintro e w1 ⟨rfl, hb1⟩
  have D1 := (Door.start HV.out).below hb1
  have D2 := Lib.hid (D1.set noF)
  obtain ⟨c0, c1, c2, cf, cl⟩ := D1.facts
  clear hb1 D1
  go_upto_region 3 with (fail)
  change Code.wp _ _ _ _ (sets3 w1 w.heap.size (.int .i64 noF.vec) (.int .i64 noF.cd) (.int .u32 (noF.cr2 : Nat)))
  clear c0 c1 c2 cf cl
  generalize sets3 w1 w.heap.size (.int .i64 noF.vec) (.int .i64 noF.cd) (.int .u32 (noF.cr2 : Nat)) = w2 at *
  generalize hG : w.heap.size = g at *
  clear hG
  have HCw := Lib.hid (D2.out.cpu HC.out HCB.out)
  obtain ⟨k1, k2, kl⟩ := HCw.out.1.code
  go_wp2_with (first | (go_at_call 34; refine (cz.out _).mono ?_; rintro e w' ⟨rfl, rfl⟩) | (go_at_call 35; refine (general_any _ _).mono ?_; rintro e w' ⟨he, rfl⟩; unfold gaveUp faultV at he; subst he))
  obtain ⟨H9, hV9, M9⟩ : ∃ H9, Vm w2 vb places (n + 2) H9 R ∧ Moves H H9 w2 w2 := ⟨H, D2.out.vm.more (by omega), Keeps.refl _ _, fun k h => .inl h⟩
  exact (D2.out.move hV9 M9).gave ⟨13, 0, 0⟩ (cres rfl rfl rfl rfl) (fun w5 D => D.cend 0 0)
set_option maxRecDepth 20000 in
set_option maxHeartbeats 2000000 in
theorem code_fault (hV : Vm w vb places n H R) (hC : CpuAt w cb C) (hcb : ¬ H cb) (off : Nat) (ho : off < 4294967296) (hnb : (n + 2) * 12 ≤ 140737488355328) (hl : ¬ (C.seg 1).lim < off) {cd : Int} {a : Nat} {R' : RS} (hp : pg R C (((C.seg 1).base + off) % 4294967296) 1 false C.user = (.fault cd a, R')) :
    Calls Try.prog 14 #[.pointer (some ⟨vb, 0, none⟩), .pointer (some ⟨cb, 0, none⟩), .int .u32 (off : Nat)] w (CEnd w vb places n H (cdr R C off)) := by
  rw [show cdr R C off = ((0, 0, ⟨14, cd, a⟩), R') by unfold cdr; rw [if_neg hl, hp]; rfl]
  have HV := Lib.hid hV
  have HC := Lib.hid hC
  have HCB := Lib.hid hcb
  have HN := Lib.hid hnb
  have HP := Lib.hid hp
  have cz := Lib.hid (fun W => sized_ok vb cb 1 (.inl rfl) W)
  clear hV hC hcb hnb hp
  go_enter_defers Try.func14, Try.ntmps14
  go_wp2_with fail
  refine (none_any _).mono ?_
  rintro e w1 ⟨rfl, hb1⟩
  have D1 := (Door.start HV.out).below hb1
  have D2 := Lib.hid (D1.set noF)
  obtain ⟨c0, c1, c2, cf, cl⟩ := D1.facts
  clear hb1 D1
  go_upto_region 3 with (fail)
  change Code.wp _ _ _ _ (sets3 w1 w.heap.size (.int .i64 noF.vec) (.int .i64 noF.cd) (.int .u32 (noF.cr2 : Nat)))
  clear c0 c1 c2 cf cl
  generalize sets3 w1 w.heap.size (.int .i64 noF.vec) (.int .i64 noF.cd) (.int .u32 (noF.cr2 : Nat)) = w2 at *
  generalize hG : w.heap.size = g at *
  clear hG
  have HCw := Lib.hid (D2.out.cpu HC.out HCB.out)
  have HW : Hid (IntKind.u32.wrap (((C.seg 1).base : Int) + (off : Int)) = ((((C.seg 1).base + off) % 4294967296 : Nat) : Int)) := Lib.hid (wrap_u32 _ _)
  have hbase := (HC.out.1.seg 1).base
  have HL := Lib.hid hl
  obtain ⟨k1, k2, kl⟩ := HCw.out.1.code
  have hl2 : ((C.seg 1).lim : Int) < (off : Int) → False := fun h => hl (by omega)
  have hl3 : (off : Int) ≤ ((C.seg 1).lim : Int) := by omega
  clear hl2 hl
  go_upto_region 7 with (first | (go_at_call 34; refine (cz.out _).mono ?_; rintro e w' ⟨rfl, rfl⟩) | (go_at_call 35; refine (general_any _ _).mono ?_; rintro e w' ⟨he, rfl⟩; unfold gaveUp faultV at he; subst he))
  have DA := Lib.hid (D2.out.below (Below.refl _ _).drew)
  have DB := Lib.hid (D2.out.below ((Below.refl _ _).alloc (Nat.le_refl _) (.cells #[.int .u32 0, .int .u32 0, .int .u32 0, .int .u32 0] 89)).drew)
  have HA := Lib.hid (DA.out.cpu HC.out HCB.out)
  have HB := Lib.hid (DB.out.cpu HC.out HCB.out)
  have ua := Lib.hid (user_any HA.out.1)
  have ub := Lib.hid (user_any HB.out.1)
  have pa := Lib.hid (pages_no DA.out.vm HA.out.1 HA.out.2 (((C.seg 1).base + off) % 4294967296) 1 (Nat.mod_lt _ (by decide)) (.inl rfl) false C.user false HN.out (IntKind.u32.wrap (((C.seg 1).base : Int) + (off : Int))) 1 HW.out rfl (by rw [HP.out]))
  have pb := Lib.hid (pages_no DB.out.vm HB.out.1 HB.out.2 (((C.seg 1).base + off) % 4294967296) 1 (Nat.mod_lt _ (by decide)) (.inl rfl) false C.user false HN.out (IntKind.u32.wrap (((C.seg 1).base : Int) + (off : Int))) 1 HW.out rfl (by rw [HP.out]))
  have S0 : Hid ((w2.drew).cell? ⟨cb, 21, none⟩ = some (.int .u32 ((C.seg 1).base : Nat))) := Lib.hid HA.out.1.code.1
  have S1 : Hid (((w2.alloc (.cells #[.int .u32 0, .int .u32 0, .int .u32 0, .int .u32 0] 89)).drew).cell? ⟨cb, 21, none⟩ = some (.int .u32 ((C.seg 1).base : Nat))) := Lib.hid HB.out.1.code.1
  refine wp_region_held_drew (S := fun w' => w'.cell? ⟨cb, 21, none⟩ = some (.int .u32 ((C.seg 1).base : Nat))) (by kernel_rfl) S0.out (fun hHeld => ?_)
  clear k1 k2 kl
  refine wpAnyH_take (i := 0) (oi := _) (v := ?_) rfl (by kernel_rfl) (by kernel_rfl) (by kernel_rfl) (panicD_put3 rfl (by decide) (by decide) (by decide) _) (Or.inl ⟨by rfl, ?_⟩) (by assumption) ?_
  rotate_left
  · (intro w hSw; (try dsimp only at hSw); go_simp <;> rfl)
  simp only [Act.put, List.getElem_toArray, List.getElem_cons_zero, List.getElem_cons_succ, List.setIfInBounds_toArray, List.set_cons_zero, List.set_cons_succ]
  refine wpAnyH_take (i := 1) (oi := _) (v := ?_) rfl (by kernel_rfl) (by kernel_rfl) (by kernel_rfl) (panicD_put3 rfl (by decide) (by decide) (by decide) _) (Or.inl ⟨by rfl, ?_⟩) (by assumption) ?_
  rotate_left
  · (intro w hSw; (try dsimp only at hSw); go_simp <;> rfl)
  simp only [Act.put, List.getElem_toArray, List.getElem_cons_zero, List.getElem_cons_succ, List.setIfInBounds_toArray, List.set_cons_zero, List.set_cons_succ]
  refine wpAnyH_take (i := 2) (oi := _) (v := ?_) rfl (by kernel_rfl) (by kernel_rfl) (by kernel_rfl) (panicD_put3 rfl (by decide) (by decide) (by decide) _) (Or.inl ⟨by rfl, ?_⟩) (by assumption) ?_
  rotate_left
  · (intro w hSw; (try dsimp only at hSw); go_simp <;> rfl)
  simp only [Act.put, List.getElem_toArray, List.getElem_cons_zero, List.getElem_cons_succ, List.setIfInBounds_toArray, List.set_cons_zero, List.set_cons_succ]
  refine wpAnyH_take (i := 3) (oi := _) (v := ?_) rfl (by kernel_rfl) (by kernel_rfl) (by kernel_rfl) (panicD_put3 rfl (by decide) (by decide) (by decide) _) (Or.inl ⟨by rfl, ?_⟩) (by assumption) ?_
  rotate_left
  · (intro w hSw; (try dsimp only at hSw); go_simp <;> rfl)
  simp only [Act.put, List.getElem_toArray, List.getElem_cons_zero, List.getElem_cons_succ, List.setIfInBounds_toArray, List.set_cons_zero, List.set_cons_succ]
  refine wpAnyH_take (i := 4) (oi := _) (v := ?_) rfl (by kernel_rfl) (by kernel_rfl) (by kernel_rfl) (panicD_put3 rfl (by decide) (by decide) (by decide) _) (Or.inl ⟨by rfl, ?_⟩) (by assumption) ?_
  rotate_left
  · (intro w hSw; (try dsimp only at hSw); go_simp <;> rfl)
  simp only [Act.put, List.getElem_toArray, List.getElem_cons_zero, List.getElem_cons_succ, List.setIfInBounds_toArray, List.set_cons_zero, List.set_cons_succ]
  refine wpAnyH_take (i := 5) (oi := _) (v := ?_) rfl (by kernel_rfl) (by kernel_rfl) (by kernel_rfl) (panicD_put3 rfl (by decide) (by decide) (by decide) _) (Or.inl ⟨by rfl, ?_⟩) (by assumption) ?_
  rotate_left
  · (intro w hSw; (try dsimp only at hSw); go_simp <;> rfl)
  simp only [Act.put, List.getElem_toArray, List.getElem_cons_zero, List.getElem_cons_succ, List.setIfInBounds_toArray, List.set_cons_zero, List.set_cons_succ]
  refine wpAnyH_take (i := 6) (oi := _) (v := ?_) rfl (by kernel_rfl) (by kernel_rfl) (by kernel_rfl) (panicD_put3 rfl (by decide) (by decide) (by decide) _) (Or.inl ⟨by rfl, ?_⟩) (by assumption) ?_
  rotate_left
  · (intro w hSw; (try dsimp only at hSw); go_simp <;> rfl)
  simp only [Act.put, List.getElem_toArray, List.getElem_cons_zero, List.getElem_cons_succ, List.setIfInBounds_toArray, List.set_cons_zero, List.set_cons_succ]
  refine wpAnyH_take (i := 7) (oi := _) (v := ?_) rfl (by kernel_rfl) (by kernel_rfl) (by kernel_rfl) (panicD_put3 rfl (by decide) (by decide) (by decide) _) (Or.inl ⟨by rfl, ?_⟩) (by assumption) ?_
  rotate_left
  · (intro w hSw; (try dsimp only at hSw); go_simp <;> rfl)
  simp only [Act.put, List.getElem_toArray, List.getElem_cons_zero, List.getElem_cons_succ, List.setIfInBounds_toArray, List.set_cons_zero, List.set_cons_succ]
  refine wpAnyH_take (i := 8) (oi := _) (v := ?_) rfl (by kernel_rfl) (by kernel_rfl) (by kernel_rfl) (panicD_put3 rfl (by decide) (by decide) (by decide) _) (Or.inl ⟨by rfl, ?_⟩) (by assumption) ?_
  rotate_left
  · (intro w hSw; (try dsimp only at hSw); go_simp <;> rfl)
  simp only [Act.put, List.getElem_toArray, List.getElem_cons_zero, List.getElem_cons_succ, List.setIfInBounds_toArray, List.set_cons_zero, List.set_cons_succ]
  refine wpAnyH_take (i := 9) (oi := _) (v := ?_) rfl (by kernel_rfl) (by kernel_rfl) (by kernel_rfl) (panicD_put3 rfl (by decide) (by decide) (by decide) _) (Or.inl ⟨by rfl, ?_⟩) (by assumption) ?_
  rotate_left
  · (intro w hSw; (try dsimp only at hSw); go_simp <;> rfl)
  simp only [Act.put, List.getElem_toArray, List.getElem_cons_zero, List.getElem_cons_succ, List.setIfInBounds_toArray, List.set_cons_zero, List.set_cons_succ]
  refine wpAnyH_ready (rs := [10, 13]) (by kernel_rfl) (by simp) (AllReadyH.cons (i := 10) (o := _) rfl (fun K1 hK1 => ?_) (AllReadyH.cons (i := 13) (o := _) rfl (fun K1 hK1 => ?_) AllReadyH.nil))
  all_goals simp only [List.getElem_toArray, List.getElem_cons_zero, List.getElem_cons_succ]
  all_goals go_simp
  · refine ua.out.mono ?_
    rintro e W ⟨rfl, rfl⟩
    refine hK1.out _ _ S0.out (fun hHeld2 => ?_)
    clear hK1 K1
    (try simp only [Act.put, List.getElem_toArray, List.getElem_cons_zero, List.getElem_cons_succ, List.setIfInBounds_toArray, List.set_cons_zero, List.set_cons_succ])
    refine wpAnyH_take (i := 11) (oi := _) (v := ?_) rfl (by kernel_rfl) (by kernel_rfl) (by kernel_rfl) (panicD_put3 rfl (by decide) (by decide) (by decide) _) (Or.inl ⟨by rfl, ?_⟩) (by assumption) ?_
    rotate_left
    · (intro w hSw; (try dsimp only at hSw); go_simp <;> rfl)
    simp only [Act.put, List.getElem_toArray, List.getElem_cons_zero, List.getElem_cons_succ, List.setIfInBounds_toArray, List.set_cons_zero, List.set_cons_succ]
    refine wpAnyH_ready (rs := [12, 13]) (by kernel_rfl) (by simp) (AllReadyH.cons (i := 12) (o := _) rfl (fun K1 hK1 => ?_) (AllReadyH.cons (i := 13) (o := _) rfl (fun K1 hK1 => ?_) AllReadyH.nil))
    all_goals simp only [List.getElem_toArray, List.getElem_cons_zero, List.getElem_cons_succ]
    all_goals go_simp
    · refine (pa.out).mono ?_
      rintro e w3 ⟨rfl, H3, hV3, M3⟩
      rw [HP.out] at hV3
      exact (DA.out.move hV3 M3).gave ⟨14, cd, a⟩ (cres rfl rfl rfl rfl) (fun w5 D => D.cend 0 0)
    · refine hK1.out _ _ S1.out (fun hHeld2 => ?_)
      clear hK1 K1
      (try simp only [Act.put, List.getElem_toArray, List.getElem_cons_zero, List.getElem_cons_succ, List.setIfInBounds_toArray, List.set_cons_zero, List.set_cons_succ])
      refine wpAnyH_ready (rs := [12]) (by kernel_rfl) (by simp) (AllReadyH.cons (i := 12) (o := _) rfl (fun K1 hK1 => ?_) AllReadyH.nil)
      all_goals simp only [List.getElem_toArray, List.getElem_cons_zero, List.getElem_cons_succ]
      all_goals go_simp
      refine (pb.out).mono ?_
      rintro e w3 ⟨rfl, H3, hV3, M3⟩
      rw [HP.out] at hV3
      exact (DB.out.move hV3 M3).gave ⟨14, cd, a⟩ (cres rfl rfl rfl rfl) (fun w5 D => D.cend 0 0)
  · refine hK1.out _ _ S1.out (fun hHeld2 => ?_)
    clear hK1 K1
    (try simp only [Act.put, List.getElem_toArray, List.getElem_cons_zero, List.getElem_cons_succ, List.setIfInBounds_toArray, List.set_cons_zero, List.set_cons_succ])
    refine wpAnyH_ready (rs := [10]) (by kernel_rfl) (by simp) (AllReadyH.cons (i := 10) (o := _) rfl (fun K1 hK1 => ?_) AllReadyH.nil)
    all_goals simp only [List.getElem_toArray, List.getElem_cons_zero, List.getElem_cons_succ]
    all_goals go_simp
    refine ub.out.mono ?_
    rintro e W ⟨rfl, rfl⟩
    refine hK1.out _ _ S1.out (fun hHeld2 => ?_)
    clear hK1 K1
    (try simp only [Act.put, List.getElem_toArray, List.getElem_cons_zero, List.getElem_cons_succ, List.setIfInBounds_toArray, List.set_cons_zero, List.set_cons_succ])
    refine wpAnyH_take (i := 11) (oi := _) (v := ?_) rfl (by kernel_rfl) (by kernel_rfl) (by kernel_rfl) (panicD_put3 rfl (by decide) (by decide) (by decide) _) (Or.inl ⟨by rfl, ?_⟩) (by assumption) ?_
    rotate_left
    · (intro w hSw; (try dsimp only at hSw); go_simp <;> rfl)
    simp only [Act.put, List.getElem_toArray, List.getElem_cons_zero, List.getElem_cons_succ, List.setIfInBounds_toArray, List.set_cons_zero, List.set_cons_succ]
    refine wpAnyH_ready (rs := [12]) (by kernel_rfl) (by simp) (AllReadyH.cons (i := 12) (o := _) rfl (fun K1 hK1 => ?_) AllReadyH.nil)
    all_goals simp only [List.getElem_toArray, List.getElem_cons_zero, List.getElem_cons_succ]
    all_goals go_simp
    refine (pb.out).mono ?_
    rintro e w3 ⟨rfl, H3, hV3, M3⟩
    rw [HP.out] at hV3
    exact (DB.out.move hV3 M3).gave ⟨14, cd, a⟩ (cres rfl rfl rfl rfl) (fun w5 D => D.cend 0 0)
set_option maxRecDepth 20000 in
set_option maxHeartbeats 2000000 in
theorem code_r8 {x : Nat} {w3 : World} {H3 : Nat → Prop} {s : SpanS} (D : Door w w3 vb places (n + 2) H H3 R' g noF) (hx : w3.heap[x]? = some (.cells (spanCells s) 89)) (hne : x ≠ g) (hs : s.ok) (h1 : s.n0 + s.n1 = 1) {u1 u2 u3 u4 u5 u9 u11 u12 u13 u14 u15 u16 u17 u18 u19 u20 u21 u22 u23 u24 u25 u26 u27 u28 u29 u30 u31 u32 u33 u34 u35 u36 u37 u38 u39 u40 u41 u42 u43 u44 u45 u46 u47 : Value} {K : Act → World → Prop}
    (hK : ∀ a w1, Code.wp Try.prog (tl Try.f14 8) (bodyPostD Try.prog Try.f14 (CEnd w vb places n H ((getN R' s (s.n0 + s.n1), s.a0, noF), R'))) a w1 → K a w1) :
    Code.wp Try.prog (rg Try.f14 8) (Exit.then K (bodyPostD Try.prog Try.f14 (CEnd w vb places n H ((getN R' s (s.n0 + s.n1), s.a0, noF), R')))) ⟨#[.pointer (some ⟨vb, 0, none⟩), u1, u2, u3, u4, u5, .int .u8 0, .int .u32 0, .pointer (some ⟨g, 0, none⟩), u9, .pointer (some ⟨x, 0, none⟩), u11, u12, u13, u14, u15, u16, u17, u18, u19, u20, u21, u22, u23, u24, u25, u26, u27, u28, u29, u30, u31, u32, u33, u34, u35, u36, u37, u38, u39, u40, u41, u42, u43, u44, u45, u46, u47], [{ target := .fn (.func 31) #[], args := #[.pointer (some ⟨g, 0, none⟩)] }]⟩ w3 := by
  have hv : getN R' s (s.n0 + s.n1) < 256 := by
    have := getN_lt D.vm.wide.ok s (s.n0 + s.n1)
    rw [h1] at this ⊢
    simpa using this
  have HW8 : Hid (IntKind.u8.wrap ((getN R' s (s.n0 + s.n1) : Nat) : Int) = ((getN R' s (s.n0 + s.n1) : Nat) : Int)) := Lib.hid (by rw [IntKind.wrap_u8]; omega)
  have HS := Lib.hid hs
  have D2 := Lib.hid (D.below (Below.refl _ _).drew)
  have HX : Hid (w3.drew.heap[x]? = some (.cells (spanCells s) 89)) := Lib.hid hx
  have XC : ∀ W : World, W.heap[x]? = some (.cells (spanCells s) 89) → W.cell? ⟨x, 0, none⟩ = some (.int .u32 (s.a0 : Nat)) ∧ W.cell? ⟨x, 1, none⟩ = some (.int .u32 (s.a1 : Nat)) ∧ W.cell? ⟨x, 2, none⟩ = some (.int .u32 (s.n0 : Nat)) ∧ W.cell? ⟨x, 3, none⟩ = some (.int .u32 (s.n1 : Nat)) := fun W h => ⟨by rw [cell_at h]; rfl, by rw [cell_at h]; rfl, by rw [cell_at h]; rfl, by rw [cell_at h]; rfl⟩
  have HXC := Lib.hid XC
  have HNE := Lib.hid hne
  obtain ⟨x0, x1, x2, x3⟩ := XC _ HX.out
  obtain ⟨c0, c1, c2, cf, cl⟩ := D2.out.facts
  have S0 := Lib.hid (And.intro x0 (And.intro x1 (And.intro x2 (And.intro x3 (And.intro c0 (And.intro c1 c2))))))
  clear XC hx hs D h1 hv hne x0 x1 x2 x3 c0 c1 c2
  conv => arg 2; whnf
  conv at hK => enter [a, w1, 1, 2]; whnf
  go_region_held3 (fun w' => w'.cell? ⟨x, 0, none⟩ = some (.int .u32 (s.a0 : Nat)) ∧ w'.cell? ⟨x, 1, none⟩ = some (.int .u32 (s.a1 : Nat)) ∧ w'.cell? ⟨x, 2, none⟩ = some (.int .u32 (s.n0 : Nat)) ∧ w'.cell? ⟨x, 3, none⟩ = some (.int .u32 (s.n1 : Nat)) ∧ w'.cell? ⟨g, 0, none⟩ = some (.int .i64 noF.vec) ∧ w'.cell? ⟨g, 1, none⟩ = some (.int .i64 noF.cd) ∧ w'.cell? ⟨g, 2, none⟩ = some (.int .u32 (noF.cr2 : Nat)))
    (first | (with_reducible exact S0.out) | (with_reducible exact S4.out) | exact S5.out)
    (first
    | (go_at_call 32; refine (get_span D2.out.vm HS.out).mono ?_; rintro e w4 ⟨rfl, hb4⟩; have D4 := Lib.hid (D2.out.below hb4); obtain ⟨p0, p1, p2, pf, pl⟩ := D4.out.facts; have hx4 := heap_below hb4 HX.out; obtain ⟨y0, y1, y2, y3⟩ := HXC.out _ hx4; have S4 := Lib.hid (And.intro y0 (And.intro y1 (And.intro y2 (And.intro y3 (And.intro p0 (And.intro p1 p2)))))); have D5 := Lib.hid (D4.out.set noF); obtain ⟨b0, b1, b2, -, -⟩ := D5.out.facts; obtain ⟨v0, v1, v2, v3⟩ := HXC.out (sets3 w4 g (.int .i64 noF.vec) (.int .i64 noF.cd) (.int .u32 (noF.cr2 : Nat))) (((keeps_sets3 w4 g (.int .i64 noF.vec) (.int .i64 noF.cd) (.int .u32 (noF.cr2 : Nat))).block x (heap_lt hx4) HNE.out).trans hx4); have S5 := Lib.hid (And.intro v0 (And.intro v1 (And.intro v2 (And.intro v3 (And.intro b0 (And.intro b1 b2)))))); clear hb4 hx4 y0 y1 y2 y3 b0 b1 b2 v0 v1 v2 v3))
  all_goals
    rw [HW8.out]
    go_wp2_with fail
    refine D5.out.idle (v := .tuple #[.int .u8 ((getN R' s (s.n0 + s.n1) : Nat) : Int), .int .u32 (s.a0 : Nat), noF.val]) ?_ (fun w5 D => D.cend _ _)
    exact cres rfl rfl rfl rfl
set_option maxRecDepth 20000 in
set_option maxHeartbeats 2000000 in
theorem code_ok (hV : Vm w vb places n H R) (hC : CpuAt w cb C) (hcb : ¬ H cb) (off : Nat) (ho : off < 4294967296) (hnb : (n + 2) * 12 ≤ 140737488355328) (hl : ¬ (C.seg 1).lim < off) {s : SpanS} {R' : RS} (hp : pg R C (((C.seg 1).base + off) % 4294967296) 1 false C.user = (.ok s, R')) :
    Calls Try.prog 14 #[.pointer (some ⟨vb, 0, none⟩), .pointer (some ⟨cb, 0, none⟩), .int .u32 (off : Nat)] w (CEnd w vb places n H (cdr R C off)) := by
  rw [show cdr R C off = ((getN R' s (s.n0 + s.n1), s.a0, noF), R') by unfold cdr; rw [if_neg hl, hp]; rfl]
  have HV := Lib.hid hV
  have HC := Lib.hid hC
  have HCB := Lib.hid hcb
  have HN := Lib.hid hnb
  have HP := Lib.hid hp
  have HF := Lib.hid (pg_fits hV.wide (Nat.mod_lt _ (by decide)) (by omega) hC.1.cr3 hp)
  have cz := Lib.hid (fun W => sized_ok vb cb 1 (.inl rfl) W)
  clear hV hC hcb hnb hp
  go_enter_defers Try.func14, Try.ntmps14
  go_wp2_with fail
  refine (none_any _).mono ?_
  rintro e w1 ⟨rfl, hb1⟩
  have D1 := (Door.start HV.out).below hb1
  have D2 := Lib.hid (D1.set noF)
  obtain ⟨c0, c1, c2, cf, cl⟩ := D1.facts
  clear hb1 D1
  go_upto_region 3 with (fail)
  change Code.wp _ _ _ _ (sets3 w1 w.heap.size (.int .i64 noF.vec) (.int .i64 noF.cd) (.int .u32 (noF.cr2 : Nat)))
  clear c0 c1 c2 cf cl
  generalize sets3 w1 w.heap.size (.int .i64 noF.vec) (.int .i64 noF.cd) (.int .u32 (noF.cr2 : Nat)) = w2 at *
  generalize hG : w.heap.size = g at *
  clear hG
  have HCw := Lib.hid (D2.out.cpu HC.out HCB.out)
  have HW : Hid (IntKind.u32.wrap (((C.seg 1).base : Int) + (off : Int)) = ((((C.seg 1).base + off) % 4294967296 : Nat) : Int)) := Lib.hid (wrap_u32 _ _)
  have hbase := (HC.out.1.seg 1).base
  have HL := Lib.hid hl
  obtain ⟨k1, k2, kl⟩ := HCw.out.1.code
  have hl2 : ((C.seg 1).lim : Int) < (off : Int) → False := fun h => hl (by omega)
  have hl3 : (off : Int) ≤ ((C.seg 1).lim : Int) := by omega
  clear hl2 hl
  go_upto_region 7 with (first | (go_at_call 34; refine (cz.out _).mono ?_; rintro e w' ⟨rfl, rfl⟩) | (go_at_call 35; refine (general_any _ _).mono ?_; rintro e w' ⟨he, rfl⟩; unfold gaveUp faultV at he; subst he))
  have DA := Lib.hid (D2.out.below (Below.refl _ _).drew)
  have DB := Lib.hid (D2.out.below ((Below.refl _ _).alloc (Nat.le_refl _) (.cells #[.int .u32 0, .int .u32 0, .int .u32 0, .int .u32 0] 89)).drew)
  have HA := Lib.hid (DA.out.cpu HC.out HCB.out)
  have HB := Lib.hid (DB.out.cpu HC.out HCB.out)
  have ua := Lib.hid (user_any HA.out.1)
  have ub := Lib.hid (user_any HB.out.1)
  have pa := Lib.hid (pages_ok DA.out.vm HA.out.1 HA.out.2 (((C.seg 1).base + off) % 4294967296) 1 (Nat.mod_lt _ (by decide)) (.inl rfl) false C.user false HN.out (IntKind.u32.wrap (((C.seg 1).base : Int) + (off : Int))) 1 HW.out rfl (by rw [HP.out]))
  have pb := Lib.hid (pages_ok DB.out.vm HB.out.1 HB.out.2 (((C.seg 1).base + off) % 4294967296) 1 (Nat.mod_lt _ (by decide)) (.inl rfl) false C.user false HN.out (IntKind.u32.wrap (((C.seg 1).base : Int) + (off : Int))) 1 HW.out rfl (by rw [HP.out]))
  have HBX : Hid ((w2.alloc (.cells #[.int .u32 0, .int .u32 0, .int .u32 0, .int .u32 0] 89)).drew.heap[w2.heap.size]? = some (.cells #[.int .u32 0, .int .u32 0, .int .u32 0, .int .u32 0] 89)) := Lib.hid (heap_new w2 _)
  have S0 : Hid ((w2.drew).cell? ⟨cb, 21, none⟩ = some (.int .u32 ((C.seg 1).base : Nat))) := Lib.hid HA.out.1.code.1
  have S1 : Hid (((w2.alloc (.cells #[.int .u32 0, .int .u32 0, .int .u32 0, .int .u32 0] 89)).drew).cell? ⟨cb, 21, none⟩ = some (.int .u32 ((C.seg 1).base : Nat))) := Lib.hid HB.out.1.code.1
  have HBL : Hid (cb < w2.heap.size ∧ g < w2.heap.size) := Lib.hid ⟨kl, heap_lt D2.out.box⟩
  go_region_held3 (fun w' => w'.cell? ⟨cb, 21, none⟩ = some (.int .u32 ((C.seg 1).base : Nat)))
    (first | (with_reducible exact S0.out) | (with_reducible exact S1.out) | (with_reducible exact q1) | (with_reducible exact (cell_alloc_lt ql _).trans q1) | exact (cell_sets4_ne w3 (Nat.ne_of_lt HBL.out.1) _ _ _ _).trans q1)
    (first
    | (go_at_call 37; (with_reducible refine (ua.out).mono ?_); rintro e W ⟨rfl, rfl⟩)
    | (go_at_call 37; (with_reducible refine (ub.out).mono ?_); rintro e W ⟨rfl, rfl⟩)
    | (go_at_call 36; (with_reducible refine (pa.out).mono ?_); rintro e w3 ⟨rfl, H3, hV3, M3⟩; rw [HP.out] at hV3; have D3 := DA.out.move hV3 M3; obtain ⟨q1, q2, ql⟩ := (D3.cpu HC.out HCB.out).1.code; have D4 := Lib.hid (show Door w (w3.alloc (.cells #[.int .u32 (s.a0 : Nat), .int .u32 (s.a1 : Nat), .int .u32 (s.n0 : Nat), .int .u32 (s.n1 : Nat)] 89)) vb places (n + 2) H H3 R' g noF ∧ (w3.alloc (.cells #[.int .u32 (s.a0 : Nat), .int .u32 (s.a1 : Nat), .int .u32 (s.n0 : Nat), .int .u32 (s.n1 : Nat)] 89)).heap[w3.heap.size]? = some (.cells (spanCells s) 89) ∧ w3.heap.size ≠ g from ⟨D3.below ((Below.refl _ _).alloc (Nat.le_refl _) _), heap_new w3 _, fun e => by have := heap_lt D3.box; omega⟩); clear hV3 M3 D3)
    | (go_at_call 36; (with_reducible refine (pb.out).mono ?_); rintro e w3 ⟨rfl, H3, hV3, M3⟩; rw [HP.out] at hV3; have D3 := DB.out.move hV3 M3; obtain ⟨q1, q2, ql⟩ := (D3.cpu HC.out HCB.out).1.code; have hx : w3.heap[w2.heap.size]? = some (.cells #[.int .u32 0, .int .u32 0, .int .u32 0, .int .u32 0] 89) := (M3.1.block w2.heap.size (by show w2.heap.size < (w2.alloc (.cells #[.int .u32 0, .int .u32 0, .int .u32 0, .int .u32 0] 89)).heap.size; simp) (fun h => by have := D2.out.vm.lt _ h; omega)).trans HBX.out; have z0 := cell_at (k := 0) hx; have z1 := cell_at (k := 1) hx; have z2 := cell_at (k := 2) hx; have z3 := cell_at (k := 3) hx; have zf : ∀ j, w3.frozen? ⟨w2.heap.size, j, none⟩ = false := (fun j => free_at hx); have zl := heap_lt hx; simp at z0 z1 z2 z3; have D4 := Lib.hid (show Door w (sets4 w3 w2.heap.size (.int .u32 (s.a0 : Nat)) (.int .u32 (s.a1 : Nat)) (.int .u32 (s.n0 : Nat)) (.int .u32 (s.n1 : Nat))) vb places (n + 2) H H3 R' g noF ∧ (sets4 w3 w2.heap.size (.int .u32 (s.a0 : Nat)) (.int .u32 (s.a1 : Nat)) (.int .u32 (s.n0 : Nat)) (.int .u32 (s.n1 : Nat))).heap[w2.heap.size]? = some (.cells (spanCells s) 89) ∧ w2.heap.size ≠ g from ⟨D3.keepsX (keeps_sets4 _ _ _ _ _ _) (fun h => by rcases M3.2 _ h with h | h; exact absurd (D2.out.vm.lt _ h) (by omega); exact absurd h (by show ¬ (w2.alloc (.cells #[.int .u32 0, .int .u32 0, .int .u32 0, .int .u32 0] 89)).heap.size ≤ w2.heap.size; simp)) (fun e => by have := HBL.out.2; omega) (Nat.le_trans D2.out.mv.1.size (Nat.le_refl _)), block_sets4 hx _ _ _ _, fun e => by have := HBL.out.2; omega⟩); clear hV3 M3 D3 hx))
  all_goals
    go_upto_region 8 with (fail)
    exact code_r8 D4.out.1 D4.out.2.1 D4.out.2.2 HF.out.1 HF.out.2 (by assumption)
/-- Code. -/
theorem code_any (hV : Vm w vb places n H R) (hC : CpuAt w cb C) (hcb : ¬ H cb) (off : Nat) (ho : off < 4294967296) (hnb : (n + 2) * 12 ≤ 140737488355328) :
    Calls Try.prog 14 #[.pointer (some ⟨vb, 0, none⟩), .pointer (some ⟨cb, 0, none⟩), .int .u32 (off : Nat)] w (CEnd w vb places n H (cdr R C off)) := by
  by_cases hl : (C.seg 1).lim < off
  · exact code_lim hV hC hcb off ho hnb hl
  · rcases pg_cases R C (((C.seg 1).base + off) % 4294967296) 1 false C.user with ⟨s, R', h⟩ | ⟨cd, a, R', h⟩
    · exact code_ok hV hC hcb off ho hnb hl h
    · exact code_fault hV hC hcb off ho hnb hl h
end
end Go.Proofs.Ytknokiadbkgmaaa
