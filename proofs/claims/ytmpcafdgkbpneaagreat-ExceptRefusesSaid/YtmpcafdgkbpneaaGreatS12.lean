/- Steps of a proof: VmIO, Bits, together. -/
import Derived.Test.YtmpcafdgkbpneaaGreatS11
import Derived.Defers
import Derived.WalkKit
import Derived.Laws.BitsAll
/- VmK, VmL, VmN, VmM, VmO, VmP, together. -/
/- vmem: faults; the calls with a door. -/
set_option maxHeartbeats 4000000
set_option maxRecDepth 20000
namespace Go.Proofs.YtmpcafdgkbpneaaGreat
open Go.RowKit Go.MapKept
set_option linter.unusedVariables false
attribute [local go_sem ↓] Go.wp_at_zero Go.wp_at_succ

structure FaultS where
 vec : Int
 cd : Int
 cr2 : Nat
def noF : FaultS := ⟨-1, -1, 0⟩
def FaultS.cells (f : FaultS) : Array Value := #[.int .i64 f.vec, .int .i64 f.cd, .int .u32 (f.cr2 : Nat)]
def FaultS.val (f : FaultS) : Value := .agg #[.int .i64 f.vec, .int .i64 f.cd, .int .u32 (f.cr2 : Nat)]
theorem none_any (w : World) : Calls Tryz.prog 61 #[] w fun e w' => e = .returned (.agg #[.int .i64 (-1), .int .i64 (-1), .int .u32 0]) ∧ Below w.heap.size w w' := by
 go_enter Tryz.func61, Tryz.ntmps61
 go_wp2_with fail
 refine bodyPost_ret (v := .agg #[.int .i64 (-1), .int .i64 (-1), .int .u32 0]) (by simp [results, Tryz.results61, go_sem]) rfl ⟨rfl, ?_⟩
 go_grown
theorem pg_fits {R R' : RS} {C : CpuS} {lin size : Nat} {wr us : Bool} {s : SpanS} (hw : Wide R) (hl : lin < 4294967296) (h4 : size ≤ 4) (hc : C.cr3 < 4294967296) (h : pg R C lin size wr us = (.ok s, R')) : s.ok ∧ s.n0 + s.n1 = size := by
 have hfl := first_le lin size
 have hl2 : lin2 lin size < 4294967296 := by unfold lin2; omega
 have op : ∀ fr l : Nat, fr % 4096 = 0 → fr < 4294967296 → onPage fr l < 4294967296 := fun fr l h1 h2 => by unfold onPage; omega
 cases hp : C.paged with
 | false =>
  unfold pg at h
  rw [hp] at h
  obtain ⟨h1, _⟩ := Prod.mk.inj h
  injection h1 with h1
  subst h1
  exact ⟨⟨hl, hl2, by show first lin size + (size - first lin size) ≤ 4; omega⟩, by show first lin size + (size - first lin size) = size; omega⟩
 | true =>
  rw [pg_on hp] at h
  obtain ⟨⟨⟨fr, pd, pt, xw, xu⟩, cd, R1⟩, hr⟩ : ∃ r, find R C.cr3 lin wr us C.wp = r := ⟨_, rfl⟩
  rw [hr] at h
  obtain ⟨f1, f2⟩ := find_frame hw hr
  by_cases h0 : 0 ≤ cd
  ·rw [pg1_fault h0] at h; cases h
  ·by_cases h1 : size = first lin size
   ·rw [pg1_one h0 h1] at h
    obtain ⟨h2, _⟩ := Prod.mk.inj h
    injection h2 with h2
    subst h2
    exact ⟨⟨op _ _ f1 f2, hl2, by show first lin size + 0 ≤ 4; omega⟩, by show first lin size + 0 = size; omega⟩
   ·rw [pg1_two h0 h1] at h
    obtain ⟨⟨⟨fr2, pd2, pt2, xw2, xu2⟩, cd2, R2⟩, hr2⟩ : ∃ r, find R1 C.cr3 (lin2 lin size) wr us C.wp = r := ⟨_, rfl⟩
    rw [hr2] at h
    obtain ⟨g1, g2⟩ := find_frame (find_parts hw hc hl hr).1 hr2
    by_cases h2 : 0 ≤ cd2
    ·rw [pg2_fault h2] at h; cases h
    ·rw [pg2_ok h2] at h
     obtain ⟨h3, _⟩ := Prod.mk.inj h
     injection h3 with h3
     subst h3
     exact ⟨⟨op _ _ f1 f2, op _ _ g1 g2, by show first lin size + (size - first lin size) ≤ 4; omega⟩, by show first lin size + (size - first lin size) = size; omega⟩
theorem sg_fits {R R' : RS} {C : CpuS} {seg : Int} {off : Nat} {size : Int} {wr : Bool} {s : SpanS} (hw : Wide R) (hc : C.ok) (h : sg R C seg off size wr = (.ok s, R')) : s.ok ∧ s.n0 + s.n1 = size.toNat := by
 unfold sg at h
 split at h
 ·rename_i hh
  unfold sg2 at h
  split at h
  ·obtain ⟨h1, h2⟩ := Prod.mk.inj h
   cases hp : (pg R C (((C.seg seg.toNat).base + off) % 4294967296) size.toNat wr C.user) with
   | mk a b =>
    rw [hp] at h1 h2
    cases a with
    | ok s' =>
     injection h1 with h1
     subst h1
     exact pg_fits hw (Nat.mod_lt _ (by decide)) (by rcases hh.1 with h | h | h <;> omega) hc.cr3 hp
    | fault cd a => cases h1
  ·cases h
 ·cases h
section
variable {w w' w2 : World} {vb cb : Nat} {places : Pl} {n : Nat} {H H' : Nat → Prop} {R R' : RS} {C : CpuS}
theorem segment_got (hV : Vm w vb places n H R) (hC : CpuAt w cb C) (hcb : ¬ H cb) (seg : Int) (off : Nat) (size : Int) (ho : off < 4294967296) (wr : Bool) (hnb : (n + 2) * 12 ≤ 140737488355328) {s : SpanS} {R' : RS} (h : sg R C seg off size wr = (.ok s, R')) :
    Calls Tryz.prog 105 #[.pointer (some ⟨vb, 0, none⟩), .pointer (some ⟨cb, 0, none⟩), .int .i64 seg, .int .u32 (off : Nat), .int .i64 size, .bool wr] w fun e w' =>
     e = .returned (.agg #[.int .u32 (s.a0 : Nat), .int .u32 (s.a1 : Nat), .int .u32 (s.n0 : Nat), .int .u32 (s.n1 : Nat)]) ∧ ∃ H', Vm w' vb places (n + 2) H' R' ∧ Moves H H' w w' :=
 (segment_any hV hC hcb seg off size ho wr hnb).mono fun e w' ⟨h1, _, h3⟩ => by rw [h] at h1 h3; exact ⟨h1 s rfl, h3⟩
theorem segment_gave (hV : Vm w vb places n H R) (hC : CpuAt w cb C) (hcb : ¬ H cb) (seg : Int) (off : Nat) (size : Int) (ho : off < 4294967296) (wr : Bool) (hnb : (n + 2) * 12 ≤ 140737488355328) {v cd : Int} {a : Nat} {R' : RS} (h : sg R C seg off size wr = (.no v cd a, R')) :
    Calls Tryz.prog 105 #[.pointer (some ⟨vb, 0, none⟩), .pointer (some ⟨cb, 0, none⟩), .int .i64 seg, .int .u32 (off : Nat), .int .i64 size, .bool wr] w fun e w' =>
     e = .panicked [{ v := faultV v cd a, recovered := false }] ∧ ∃ H', Vm w' vb places (n + 2) H' R' ∧ Moves H H' w w' :=
 (segment_any hV hC hcb seg off size ho wr hnb).mono fun e w' ⟨_, h2, h3⟩ => by rw [h] at h2 h3; exact ⟨h2 v cd a rfl, h3⟩
end
end Go.Proofs.YtmpcafdgkbpneaaGreat

/- vmem: Store, Check. -/
namespace Go.Proofs.YtmpcafdgkbpneaaGreat
open Go.RowKit Go.MapKept
set_option linter.unusedVariables false
attribute [local go_sem ↓] Go.wp_at_zero Go.wp_at_succ

def st (R : RS) (C : CpuS) (seg : Int) (off : Nat) (size : Int) (v : Nat) : FaultS × RS :=
 match sg R C seg off size true with
 | (.ok s, R') => (noF, putN R' s v (s.n0 + s.n1))
 | (.no a b c, R') => (⟨a, b, c⟩, R')
theorem st_ok {R R' : RS} {C : CpuS} {seg : Int} {off : Nat} {size : Int} {v : Nat} {s : SpanS} (h : sg R C seg off size true = (.ok s, R')) : st R C seg off size v = (noF, putN R' s v (s.n0 + s.n1)) := by unfold st; rw [h]
theorem st_no {R R' : RS} {C : CpuS} {seg : Int} {off : Nat} {size : Int} {v : Nat} {a b : Int} {c : Nat} (h : sg R C seg off size true = (.no a b c, R')) : st R C seg off size v = (⟨a, b, c⟩, R') := by unfold st; rw [h]
def FEnd (w : World) (vb : Nat) (places : Pl) (n : Nat) (H : Nat → Prop) (g : FaultS × RS) (e : Ending) (w' : World) : Prop :=
 e = .returned g.1.val ∧ ∃ H', Vm w' vb places (n + 2) H' g.2 ∧ Moves H H' w w'
def sets3 (w : World) (b : Nat) (v0 v1 v2 : Value) : World := ((w.setCell ⟨b, 0, .none⟩ v0).setCell ⟨b, 1, .none⟩ v1).setCell ⟨b, 2, .none⟩ v2
theorem keeps_sets3 (w : World) (b : Nat) (v0 v1 v2 : Value) : Keeps (· = b) w (sets3 w b v0 v1 v2) := (((Keeps.refl (· = b) w).setOne 0 _).setOne 1 _).setOne 2 _
theorem block_sets3 {w : World} {b : Nat} {a0 a1 a2 : Value} {T : TypeId} (h : w.heap[b]? = some (.cells #[a0, a1, a2] T (0, 0))) (v0 v1 v2 : Value) : (sets3 w b v0 v1 v2).heap[b]? = some (.cells #[v0, v1, v2] T (0, 0)) := by
 unfold sets3
 simp only [heap_set_map, putObj_cells, h, Option.map_some, List.set_cons_succ, List.set_cons_zero]
structure Door (w w1 : World) (vb : Nat) (places : Pl) (n : Nat) (H H1 : Nat → Prop) (R : RS) (g : Nat) (f : FaultS) : Prop where
 vm : Vm w1 vb places n H1 R
 mv : Moves H H1 w w1
 nin : ¬ H1 g
 new : w.heap.size ≤ g
 box : w1.heap[g]? = some (.cells f.cells 42)
section
variable {w w1 w' w2 : World} {vb cb : Nat} {places : Pl} {n n' g : Nat} {H H' H1 H2 : Nat → Prop} {R R' : RS} {C : CpuS} {f f' : FaultS}
theorem Door.keeps (h : Door w w1 vb places n H H1 R g f) (hk : Keeps (· = g) w1 w') (hf : w'.heap[g]? = some (.cells f'.cells 42)) : Door w w' vb places n H H1 R g f' :=
 ⟨h.vm.keeps hk h.nin, h.mv.setNew hk h.new, h.nin, h.new, hf⟩
theorem Door.below (h : Door w w1 vb places n H H1 R g f) (hb : Below w1.heap.size w1 w') : Door w w' vb places n H H1 R g f := h.keeps (Keeps.ofBelow hb) (heap_below hb h.box)
theorem Door.fend (h : Door w w1 vb places (n + 2) H H1 R g f) : FEnd w vb places n H (f, R) (.returned f.val) w1 := ⟨rfl, H1, h.vm, h.mv⟩
theorem Door.start (hV : Vm w vb places n H R) : Door w (w.alloc (.cells #[.int .i64 0, .int .i64 0, .int .u32 0] 42)) vb places n H H R w.heap.size ⟨0, 0, 0⟩ :=
 ⟨hV.of_heap fun k hk => Below.heap_alloc _ _ _ (hV.lt k hk), Moves.ofBelow ((Below.refl _ _).alloc (Nat.le_refl _) _), fun h => by have := hV.lt _ h; omega, Nat.le_refl _, heap_new w _⟩
theorem Door.move (h : Door w w1 vb places n H H1 R g f) (hV2 : Vm w2 vb places n' H2 R') (M2 : Moves H1 H2 w1 w2) : Door w w2 vb places n' H H2 R' g f :=
 ⟨hV2, h.mv.trans M2, fun hh => by
  rcases M2.2 g hh with h' | h'
  ·exact h.nin h'
  ·have := heap_lt h.box; omega, h.new, (M2.1.block g (heap_lt h.box) h.nin).trans h.box⟩
theorem Door.set (h : Door w w1 vb places n H H1 R g f) (f' : FaultS) : Door w (sets3 w1 g (.int .i64 f'.vec) (.int .i64 f'.cd) (.int .u32 (f'.cr2 : Nat))) vb places n H H1 R g f' :=
 h.keeps (keeps_sets3 _ _ _ _ _) (block_sets3 h.box _ _ _)
theorem Door.cpu (h : Door w w1 vb places n H H1 R g f) (hC : CpuAt w cb C) (hcb : ¬ H cb) : CpuAt w1 cb C ∧ ¬ H1 cb :=
 ⟨hC.of_heap (h.mv.1.block cb hC.lt hcb), fun hh => by
  rcases h.mv.2 cb hh with h' | h'
  ·exact hcb h'
  ·have := hC.lt; omega⟩
theorem Door.facts (h : Door w w1 vb places n H H1 R g f) : w1.cell? ⟨g, 0, none⟩ = some (.int .i64 f.vec) ∧ w1.cell? ⟨g, 1, none⟩ = some (.int .i64 f.cd) ∧ w1.cell? ⟨g, 2, none⟩ = some (.int .u32 (f.cr2 : Nat)) ∧ (∀ k, w1.frozen? ⟨g, k, none⟩ = false) ∧ g < w1.heap.size :=
 ⟨by rw [cell_at h.box]; rfl, by rw [cell_at h.box]; rfl, by rw [cell_at h.box]; rfl, fun k => free_at h.box, heap_lt h.box⟩
theorem Door.idle (h : Door w w1 vb places n H H1 R g f) {fn : Func} {tmps : Array Value} {v : Value} {post : Ending → World → Prop} (hres : ∀ w5 : World, w5.heap[g]? = some (.cells f.cells 42) → (results fn tmps).run Tryz.prog w5 = .ok v w5) (hpost : ∀ w5, Door w w5 vb places n H H1 R g f → post (.returned v) w5) :
    bodyPostD Tryz.prog fn post Exit.ret ⟨tmps, [{ target := .fn (.func 103) #[], args := #[.pointer (some ⟨g, 0, none⟩)] }]⟩ w1 := by
 refine leaves_cons (f := 103) (args := #[.pointer (some ⟨g, 0, none⟩)]) (by simp) (by simp [go_sem]) ?_
 refine (caught_idle g _).mono ?_
 rintro e u' w5 ⟨rfl, rfl, hb⟩
 have D := h.below hb
 exact ⟨v, hres _ D.box, hpost _ D⟩
theorem Door.gave (h : Door w w1 vb places n H H1 R g f) (f' : FaultS) {fn : Func} {tmps : Array Value} {v : Value} {post : Ending → World → Prop} (hres : ∀ w5 : World, w5.heap[g]? = some (.cells f'.cells 42) → (results fn tmps).run Tryz.prog w5 = .ok v w5) (hpost : ∀ w5, Door w w5 vb places n H H1 R g f' → post (.returned v) w5) :
    bodyPostD Tryz.prog fn post (Exit.panic [{ v := faultV f'.vec f'.cd f'.cr2, recovered := false }]) ⟨tmps, [{ target := .fn (.func 103) #[], args := #[.pointer (some ⟨g, 0, none⟩)] }]⟩ w1 := by
 refine leaves_cons (f := 103) (args := #[.pointer (some ⟨g, 0, none⟩)]) (by simp) (by simp [go_sem]) ?_
 refine (caught_panic g _ _ _ f'.vec f'.cd f'.cr2 [] _ h.box).mono ?_
 rintro e u' w5 ⟨rfl, rfl, hf, hk⟩
 have D := h.keeps hk hf
 exact ⟨v, hres _ D.box, hpost _ D⟩
theorem fres {fn : Func} {tmps : Array Value} {d : Tmp} (hf : fn.results = #[.cell d 42]) (ht : tmps.getD d undef = .pointer (some ⟨g, 0, none⟩)) (w5 : World) (hb : w5.heap[g]? = some (.cells f.cells 42)) : (results fn tmps).run Tryz.prog w5 = .ok f.val w5 := by
 have c0 := cell_at (k := 0) hb
 have c1 := cell_at (k := 1) hb
 have c2 := cell_at (k := 2) hb
 simp [FaultS.cells] at c0 c1 c2
 have ht' : tmps[d]?.getD undef = .pointer (some ⟨g, 0, none⟩) := by simpa using ht
 simp [results, hf, go_sem, ht', c0, c1, c2, FaultS.val]
theorem store_ok (hV : Vm w vb places n H R) (hC : CpuAt w cb C) (hcb : ¬ H cb) (seg : Int) (off : Nat) (size : Int) (ho : off < 4294967296) (v : Nat) (hv : v < 4294967296) (hnb : (n + 2) * 12 ≤ 140737488355328) {s : SpanS} {R' : RS} (h : sg R C seg off size true = (.ok s, R')) :
    Calls Tryz.prog 65 #[.pointer (some ⟨vb, 0, none⟩), .pointer (some ⟨cb, 0, none⟩), .int .i64 seg, .int .u32 (off : Nat), .int .i64 size, .int .u32 (v : Nat)] w (FEnd w vb places n H (st R C seg off size v)) := by
 rw [st_ok h]
 have hs := (sg_fits hV.wide hC.1 h).1
 have HS := Lib.hid hs
 have HV := Lib.hid hV
 have HC := Lib.hid hC
 have HCB := Lib.hid hcb
 have HN := Lib.hid hnb
 have HH := Lib.hid h
 clear hV hC hcb hnb h hs
 go_enter_defers Tryz.func65, Tryz.ntmps65
 go_wp2_with fail
 refine (none_any _).mono ?_
 rintro e w1 ⟨rfl, hb1⟩
 have D1 := (Door.start HV.out).below hb1
 have D2 := Lib.hid (D1.set noF)
 obtain ⟨c0, c1, c2, cf, cl⟩ := D1.facts
 clear hb1 D1
 go_upto_region 2 with (fail)
 change Code.wp _ _ _ _ (sets3 w1 w.heap.size (.int .i64 noF.vec) (.int .i64 noF.cd) (.int .u32 (noF.cr2 : Nat)))
 clear c0 c1 c2 cf cl
 generalize sets3 w1 w.heap.size (.int .i64 noF.vec) (.int .i64 noF.cd) (.int .u32 (noF.cr2 : Nat)) = w2 at *
 generalize hG : w.heap.size = g at *
 clear hG
 have HCw := Lib.hid (D2.out.cpu HC.out HCB.out)
 go_wp2_with fail
 refine (segment_got D2.out.vm HCw.out.1 HCw.out.2 seg off size ho true HN.out HH.out).mono ?_
 rintro e w3 ⟨rfl, H3, hV3, M3⟩
 have D3 := Lib.hid (D2.out.move hV3 M3)
 clear hV3 M3 D2
 go_wp2_with fail
 refine (put_span D3.out.vm HS.out v hv).mono ?_
 rintro e w4 ⟨rfl, H4, hV4, M4⟩
 have D4 := Lib.hid (D3.out.move hV4 M4)
 clear hV4 M4 D3
 obtain ⟨c0, c1, c2, cf, cl⟩ := D4.out.facts
 go_wp2_with fail
 exact (D4.out.set noF).idle (fres rfl rfl) (fun w5 D => D.fend)
theorem store_no (hV : Vm w vb places n H R) (hC : CpuAt w cb C) (hcb : ¬ H cb) (seg : Int) (off : Nat) (size : Int) (ho : off < 4294967296) (v : Nat) (hnb : (n + 2) * 12 ≤ 140737488355328) {a b : Int} {c : Nat} {R' : RS} (h : sg R C seg off size true = (.no a b c, R')) :
    Calls Tryz.prog 65 #[.pointer (some ⟨vb, 0, none⟩), .pointer (some ⟨cb, 0, none⟩), .int .i64 seg, .int .u32 (off : Nat), .int .i64 size, .int .u32 (v : Nat)] w (FEnd w vb places n H (st R C seg off size v)) := by
 rw [st_no h]
 have HV := Lib.hid hV
 have HC := Lib.hid hC
 have HCB := Lib.hid hcb
 have HN := Lib.hid hnb
 have HH := Lib.hid h
 clear hV hC hcb hnb h
 go_enter_defers Tryz.func65, Tryz.ntmps65
 go_wp2_with fail
 refine (none_any _).mono ?_
 rintro e w1 ⟨rfl, hb1⟩
 have D1 := (Door.start HV.out).below hb1
 have D2 := Lib.hid (D1.set noF)
 obtain ⟨c0, c1, c2, cf, cl⟩ := D1.facts
 clear hb1 D1
 go_upto_region 2 with (fail)
 change Code.wp _ _ _ _ (sets3 w1 w.heap.size (.int .i64 noF.vec) (.int .i64 noF.cd) (.int .u32 (noF.cr2 : Nat)))
 clear c0 c1 c2 cf cl
 generalize sets3 w1 w.heap.size (.int .i64 noF.vec) (.int .i64 noF.cd) (.int .u32 (noF.cr2 : Nat)) = w2 at *
 generalize hG : w.heap.size = g at *
 clear hG
 have HCw := Lib.hid (D2.out.cpu HC.out HCB.out)
 go_wp2_with fail
 refine (segment_gave D2.out.vm HCw.out.1 HCw.out.2 seg off size ho true HN.out HH.out).mono ?_
 rintro e w3 ⟨rfl, H3, hV3, M3⟩
 exact (D2.out.move hV3 M3).gave ⟨a, b, c⟩ (fres rfl rfl) (fun w5 D => D.fend)
theorem store_any (hV : Vm w vb places n H R) (hC : CpuAt w cb C) (hcb : ¬ H cb) (seg : Int) (off : Nat) (size : Int) (ho : off < 4294967296) (v : Nat) (hv : v < 4294967296) (hnb : (n + 2) * 12 ≤ 140737488355328) :
    Calls Tryz.prog 65 #[.pointer (some ⟨vb, 0, none⟩), .pointer (some ⟨cb, 0, none⟩), .int .i64 seg, .int .u32 (off : Nat), .int .i64 size, .int .u32 (v : Nat)] w (FEnd w vb places n H (st R C seg off size v)) := by
 obtain ⟨⟨a, R'⟩, h⟩ : ∃ r, sg R C seg off size true = r := ⟨_, rfl⟩
 cases a with
 | ok s => exact store_ok hV hC hcb seg off size ho v hv hnb h
 | no a b c => exact store_no hV hC hcb seg off size ho v hnb h
end
end Go.Proofs.YtmpcafdgkbpneaaGreat

/- vmem: Load. -/
namespace Go.Proofs.YtmpcafdgkbpneaaGreat
open Go.RowKit Go.MapKept
set_option linter.unusedVariables false
set_option linter.unusedSimpArgs false
attribute [local go_sem ↓] Go.wp_at_zero Go.wp_at_succ

theorem results_put {fn : Func} {tmps : Array Value} {d a b : Tmp} {T : TypeId} (hf : fn.results = #[.tmp a, .cell b T]) (ha : d ≠ a) (hb : d ≠ b) (v : Value) : results fn (tmps.setIfInBounds d v) = results fn tmps := by
 have e1 : (tmps.setIfInBounds d v).getD a undef = tmps.getD a undef := by simp [ha]
 have e2 : (tmps.setIfInBounds d v).getD b undef = tmps.getD b undef := by simp [hb]
 unfold results
 rw [hf]
 simp only [Array.mapM_eq_mapM_toList, List.mapM_cons, List.mapM_nil, e1, e2]
theorem Leaves_congr {P : Program} {fn : Func} {t t' : Array Value} {R : Ending → World → Prop} (h : results fn t = results fn t') : ∀ (ds : List Deferred) (u : FrameMode) (w : World), Leaves P fn t R ds u w = Leaves P fn t' R ds u w := by
 intro ds
 induction ds with
 | nil => intro u w; cases u <;> simp only [Leaves, h]
 | cons d ds ih => intro u w; simp only [Leaves, ih]
theorem panicD_put {P : Program} {fn : Func} {R : Ending → World → Prop} {K : Act → World → Prop} {d a b : Tmp} {T : TypeId} (hf : fn.results = #[.tmp a, .cell b T]) (ha : d ≠ a) (hb : d ≠ b) (v : Value) (c : List PanicEntry) (x : Act) (w : World) (h : Exit.then K (bodyPostD P fn R) (.panic c) (x.put (some d) v) w) : Exit.then K (bodyPostD P fn R) (.panic c) x w := by
 have e := Leaves_congr (P := P) (R := R) (results_put (fn := fn) (tmps := x.tmps) hf ha hb v) x.defers (.panicking c) w
 exact e.mp h
def ldOf : SegGot × RS → (Nat × FaultS) × RS
 | (.ok s, R') => ((getN R' s (s.n0 + s.n1), noF), R')
 | (.no a b c, R') => ((0, ⟨a, b, c⟩), R')
def ld (R : RS) (C : CpuS) (seg : Int) (off : Nat) (size : Int) : (Nat × FaultS) × RS := ldOf (sg R C seg off size false)
def VEnd (w : World) (vb : Nat) (places : Pl) (n : Nat) (H : Nat → Prop) (g : (Nat × FaultS) × RS) (e : Ending) (w' : World) : Prop :=
 e = .returned (.tuple #[.int .u32 (g.1.1 : Nat), g.1.2.val]) ∧ ∃ H', Vm w' vb places (n + 2) H' g.2 ∧ Moves H H' w w'
section
variable {w w1 w' w2 : World} {vb cb : Nat} {places : Pl} {n n' g : Nat} {H H' H1 H2 : Nat → Prop} {R R' : RS} {C : CpuS} {f f' : FaultS}
theorem Door.vend (h : Door w w1 vb places (n + 2) H H1 R g f) (v : Nat) : VEnd w vb places n H ((v, f), R) (.returned (.tuple #[.int .u32 (v : Nat), f.val])) w1 := ⟨rfl, H1, h.vm, h.mv⟩
theorem vres {fn : Func} {tmps : Array Value} {d c : Tmp} {v : Value} (hf : fn.results = #[.tmp c, .cell d 42]) (hc : tmps.getD c undef = v) (ht : tmps.getD d undef = .pointer (some ⟨g, 0, none⟩)) (w5 : World) (hb : w5.heap[g]? = some (.cells f.cells 42)) : (results fn tmps).run Tryz.prog w5 = .ok (.tuple #[v, f.val]) w5 := by
 have c0 := cell_at (k := 0) hb
 have c1 := cell_at (k := 1) hb
 have c2 := cell_at (k := 2) hb
 simp [FaultS.cells] at c0 c1 c2
 have ht' : tmps[d]?.getD undef = .pointer (some ⟨g, 0, none⟩) := by simpa using ht
 have hc' : tmps[c]?.getD undef = v := by simpa using hc
 simp [results, hf, go_sem, ht', hc', c0, c1, c2, FaultS.val]
theorem load_no (hV : Vm w vb places n H R) (hC : CpuAt w cb C) (hcb : ¬ H cb) (seg : Int) (off : Nat) (size : Int) (ho : off < 4294967296) (hnb : (n + 2) * 12 ≤ 140737488355328) {a b : Int} {c : Nat} {R' : RS} (h : sg R C seg off size false = (.no a b c, R')) :
    Calls Tryz.prog 49 #[.pointer (some ⟨vb, 0, none⟩), .pointer (some ⟨cb, 0, none⟩), .int .i64 seg, .int .u32 (off : Nat), .int .i64 size] w (VEnd w vb places n H (ld R C seg off size)) := by
 rw [show ld R C seg off size = ((0, ⟨a, b, c⟩), R') by unfold ld; rw [h]; rfl]
 have HV := Lib.hid hV
 have HC := Lib.hid hC
 have HCB := Lib.hid hcb
 have HN := Lib.hid hnb
 have HH := Lib.hid h
 clear hV hC hcb hnb h
 go_enter_defers Tryz.func49, Tryz.ntmps49
 go_wp2_with fail
 refine (none_any _).mono ?_
 rintro e w1 ⟨rfl, hb1⟩
 have D1 := (Door.start HV.out).below hb1
 have D2 := Lib.hid ((D1.set noF).below (Below.refl _ _).drew)
 obtain ⟨c0, c1, c2, cf, cl⟩ := D1.facts
 clear hb1 D1
 go_upto_region 3 with (fail)
 change Code.wp _ _ _ _ (sets3 w1 w.heap.size (.int .i64 noF.vec) (.int .i64 noF.cd) (.int .u32 (noF.cr2 : Nat)))
 clear c0 c1 c2 cf cl
 generalize sets3 w1 w.heap.size (.int .i64 noF.vec) (.int .i64 noF.cd) (.int .u32 (noF.cr2 : Nat)) = w2 at *
 generalize hG : w.heap.size = g at *
 clear hG
 have HCw := Lib.hid (D2.out.cpu HC.out HCB.out)
 have cs := Lib.hid (segment_gave D2.out.vm HCw.out.1 HCw.out.2 seg off size ho false HN.out HH.out)
 obtain ⟨c0, c1, c2, -, -⟩ := D2.out.facts
 refine wp_region_held_drew (S := fun w' => w'.cell? ⟨g, 0, none⟩ = some (.int .i64 noF.vec) ∧ w'.cell? ⟨g, 1, none⟩ = some (.int .i64 noF.cd) ∧ w'.cell? ⟨g, 2, none⟩ = some (.int .u32 (noF.cr2 : Nat))) (by kernel_rfl) ⟨c0, c1, c2⟩ (fun hHeld => ?_)
 clear c0 c1 c2
 refine wpAnyH_take (i := 0) (oi := _) (v := ?_) rfl (by kernel_rfl) (by kernel_rfl) (by kernel_rfl) (panicD_put rfl (by decide) (by decide) _) (Or.inl ⟨by rfl, ?_⟩) (by assumption) ?_
 rotate_left
 ·(intro w hSw; (try dsimp only at hSw); go_simp <;> rfl)
 simp only [Act.put, List.getElem_toArray, List.getElem_cons_zero, List.getElem_cons_succ, List.setIfInBounds_toArray, List.set_cons_zero, List.set_cons_succ]
 refine wpAnyH_take (i := 1) (oi := _) (v := ?_) rfl (by kernel_rfl) (by kernel_rfl) (by kernel_rfl) (panicD_put rfl (by decide) (by decide) _) (Or.inl ⟨by rfl, ?_⟩) (by assumption) ?_
 rotate_left
 ·(intro w hSw; (try dsimp only at hSw); go_simp <;> rfl)
 simp only [Act.put, List.getElem_toArray, List.getElem_cons_zero, List.getElem_cons_succ, List.setIfInBounds_toArray, List.set_cons_zero, List.set_cons_succ]
 refine wpAnyH_take (i := 2) (oi := _) (v := ?_) rfl (by kernel_rfl) (by kernel_rfl) (by kernel_rfl) (panicD_put rfl (by decide) (by decide) _) (Or.inl ⟨by rfl, ?_⟩) (by assumption) ?_
 rotate_left
 ·(intro w hSw; (try dsimp only at hSw); go_simp <;> rfl)
 simp only [Act.put, List.getElem_toArray, List.getElem_cons_zero, List.getElem_cons_succ, List.setIfInBounds_toArray, List.set_cons_zero, List.set_cons_succ]
 refine wpAnyH_take (i := 3) (oi := _) (v := ?_) rfl (by kernel_rfl) (by kernel_rfl) (by kernel_rfl) (panicD_put rfl (by decide) (by decide) _) (Or.inl ⟨by rfl, ?_⟩) (by assumption) ?_
 rotate_left
 ·(intro w hSw; (try dsimp only at hSw); go_simp <;> rfl)
 simp only [Act.put, List.getElem_toArray, List.getElem_cons_zero, List.getElem_cons_succ, List.setIfInBounds_toArray, List.set_cons_zero, List.set_cons_succ]
 refine wpAnyH_take (i := 4) (oi := _) (v := ?_) rfl (by kernel_rfl) (by kernel_rfl) (by kernel_rfl) (panicD_put rfl (by decide) (by decide) _) (Or.inl ⟨by rfl, ?_⟩) (by assumption) ?_
 rotate_left
 ·(intro w hSw; (try dsimp only at hSw); go_simp <;> rfl)
 simp only [Act.put, List.getElem_toArray, List.getElem_cons_zero, List.getElem_cons_succ, List.setIfInBounds_toArray, List.set_cons_zero, List.set_cons_succ]
 refine wpAnyH_take (i := 5) (oi := _) (v := ?_) rfl (by kernel_rfl) (by kernel_rfl) (by kernel_rfl) (panicD_put rfl (by decide) (by decide) _) (Or.inl ⟨by rfl, ?_⟩) (by assumption) ?_
 rotate_left
 ·(intro w hSw; (try dsimp only at hSw); go_simp <;> rfl)
 simp only [Act.put, List.getElem_toArray, List.getElem_cons_zero, List.getElem_cons_succ, List.setIfInBounds_toArray, List.set_cons_zero, List.set_cons_succ]
 refine wpAnyH_take (i := 8) (oi := _) (v := ?_) rfl (by kernel_rfl) (by kernel_rfl) (by kernel_rfl) (panicD_put rfl (by decide) (by decide) _) (Or.inl ⟨by rfl, ?_⟩) (by assumption) ?_
 rotate_left
 ·(intro w hSw; (try dsimp only at hSw); go_simp <;> rfl)
 simp only [Act.put, List.getElem_toArray, List.getElem_cons_zero, List.getElem_cons_succ, List.setIfInBounds_toArray, List.set_cons_zero, List.set_cons_succ]
 refine wpAnyH_ready (rs := [6]) (by kernel_rfl) (by simp) (AllReadyH.cons (i := 6) (o := _) rfl (fun K1 hK1 => ?_) AllReadyH.nil)
 simp only [List.getElem_toArray, List.getElem_cons_zero, List.getElem_cons_succ]
 go_simp
 refine (cs.out).mono ?_
 rintro e w3 ⟨rfl, H3, hV3, M3⟩
 exact (D2.out.move hV3 M3).gave ⟨a, b, c⟩ (vres rfl rfl rfl) (fun w5 D => D.vend 0)
theorem load_ok (hV : Vm w vb places n H R) (hC : CpuAt w cb C) (hcb : ¬ H cb) (seg : Int) (off : Nat) (size : Int) (ho : off < 4294967296) (hnb : (n + 2) * 12 ≤ 140737488355328) {s : SpanS} {R' : RS} (h : sg R C seg off size false = (.ok s, R')) :
    Calls Tryz.prog 49 #[.pointer (some ⟨vb, 0, none⟩), .pointer (some ⟨cb, 0, none⟩), .int .i64 seg, .int .u32 (off : Nat), .int .i64 size] w (VEnd w vb places n H (ld R C seg off size)) := by
 rw [show ld R C seg off size = ((getN R' s (s.n0 + s.n1), noF), R') by unfold ld; rw [h]; rfl]
 have hs := (sg_fits hV.wide hC.1 h).1
 have HS := Lib.hid hs
 have HV := Lib.hid hV
 have HC := Lib.hid hC
 have HCB := Lib.hid hcb
 have HN := Lib.hid hnb
 have HH := Lib.hid h
 clear hV hC hcb hnb h hs
 go_enter_defers Tryz.func49, Tryz.ntmps49
 go_wp2_with fail
 refine (none_any _).mono ?_
 rintro e w1 ⟨rfl, hb1⟩
 have D1 := (Door.start HV.out).below hb1
 have D2 := Lib.hid ((D1.set noF).below (Below.refl _ _).drew)
 obtain ⟨c0, c1, c2, cf, cl⟩ := D1.facts
 clear hb1 D1
 go_upto_region 3 with (fail)
 change Code.wp _ _ _ _ (sets3 w1 w.heap.size (.int .i64 noF.vec) (.int .i64 noF.cd) (.int .u32 (noF.cr2 : Nat)))
 clear c0 c1 c2 cf cl
 generalize sets3 w1 w.heap.size (.int .i64 noF.vec) (.int .i64 noF.cd) (.int .u32 (noF.cr2 : Nat)) = w2 at *
 generalize hG : w.heap.size = g at *
 clear hG
 have HCw := Lib.hid (D2.out.cpu HC.out HCB.out)
 have cs := Lib.hid (segment_got D2.out.vm HCw.out.1 HCw.out.2 seg off size ho false HN.out HH.out)
 obtain ⟨c0, c1, c2, cf, cl⟩ := D2.out.facts
 go_region_held3 (fun w' => w'.cell? ⟨g, 0, none⟩ = some (.int .i64 noF.vec) ∧ w'.cell? ⟨g, 1, none⟩ = some (.int .i64 noF.cd) ∧ w'.cell? ⟨g, 2, none⟩ = some (.int .u32 (noF.cr2 : Nat)))
  (first | exact ⟨c0, c1, c2⟩ | exact ⟨q0, q1, q2⟩ | exact ⟨p0, p1, p2⟩ | exact ⟨x0, x1, x2⟩)
  (first
  | (go_at_call 105; refine (cs.out).mono ?_; rintro e w3 ⟨rfl, H3, hV3, M3⟩; have D3 := Lib.hid (D2.out.move hV3 M3); obtain ⟨q0, q1, q2, qf, ql⟩ := D3.out.facts; clear hV3 M3)
  | (go_at_call 104; refine (get_span D3.out.vm HS.out).mono ?_; rintro e w4 ⟨rfl, hb4⟩; have D4 := Lib.hid (D3.out.below hb4); obtain ⟨p0, p1, p2, pf, pl⟩ := D4.out.facts; have D5 := Lib.hid (D4.out.set noF); obtain ⟨x0, x1, x2, -, -⟩ := D5.out.facts; clear hb4))
 all_goals
  go_wp2_with fail
  exact D5.out.idle (vres rfl rfl rfl) (fun w5 D => D.vend _)
theorem load_any (hV : Vm w vb places n H R) (hC : CpuAt w cb C) (hcb : ¬ H cb) (seg : Int) (off : Nat) (size : Int) (ho : off < 4294967296) (hnb : (n + 2) * 12 ≤ 140737488355328) :
    Calls Tryz.prog 49 #[.pointer (some ⟨vb, 0, none⟩), .pointer (some ⟨cb, 0, none⟩), .int .i64 seg, .int .u32 (off : Nat), .int .i64 size] w (VEnd w vb places n H (ld R C seg off size)) := by
 obtain ⟨⟨a, R'⟩, h⟩ : ∃ r, sg R C seg off size false = r := ⟨_, rfl⟩
 cases a with
 | ok s => exact load_ok hV hC hcb seg off size ho hnb h
 | no a b c => exact load_no hV hC hcb seg off size ho hnb h
end
end Go.Proofs.YtmpcafdgkbpneaaGreat

/- vmem: Check, SetSys, Sys. -/
namespace Go.Proofs.YtmpcafdgkbpneaaGreat
open Go.RowKit Go.MapKept
set_option linter.unusedVariables false
set_option linter.unusedSimpArgs false
attribute [local go_sem ↓] Go.wp_at_zero Go.wp_at_succ

def ckOf : SegGot × RS → FaultS × RS
 | (.ok s, R') => (noF, R')
 | (.no a b c, R') => (⟨a, b, c⟩, R')
def ck (R : RS) (C : CpuS) (seg : Int) (off : Nat) (size : Int) : FaultS × RS := ckOf (sg R C seg off size true)
def sy (R : RS) (C : CpuS) (lin : Nat) (size : Int) (wr : Bool) : SegGot × RS :=
 if isSize size then (SegGot.of (pg R C lin size.toNat wr false).1, (pg R C lin size.toNat wr false).2) else (.no 13 0 0, R)
theorem sy_yes {R : RS} {C : CpuS} {lin size : Nat} {wr : Bool} (hs : size = 1 ∨ size = 2 ∨ size = 4) : sy R C lin (size : Int) wr = (SegGot.of (pg R C lin size wr false).1, (pg R C lin size wr false).2) := by
 unfold sy
 rw [if_pos (show isSize (size : Int) by unfold isSize; omega)]
 rfl
theorem sy_not {R : RS} {C : CpuS} {lin : Nat} {size : Int} {wr : Bool} (hs : ¬ isSize size) : sy R C lin size wr = (.no 13 0 0, R) := by unfold sy; rw [if_neg hs]
section
variable {w w1 w' w2 : World} {vb cb : Nat} {places : Pl} {n n' g : Nat} {H H' H1 H2 : Nat → Prop} {R R' : RS} {C : CpuS} {f f' : FaultS}
theorem sys_bad (hV : Vm w vb places n H R) (hC : CpuAt w cb C) (hcb : ¬ H cb) (lin : Nat) (hl : lin < 4294967296) (size : Int) (h : ¬ isSize size) (hnb : (n + 2) * 12 ≤ 140737488355328) :
    Calls Tryz.prog 63 #[.pointer (some ⟨vb, 0, none⟩), .pointer (some ⟨cb, 0, none⟩), .int .u32 (lin : Nat), .int .i64 size] w (VEnd w vb places n H (ldOf (sy R C lin size false))) := by
 rw [sy_not h]
 have HV := Lib.hid hV
 have HC := Lib.hid hC
 have HCB := Lib.hid hcb
 have HN := Lib.hid hnb
 have cz := Lib.hid (fun W => sized_bad (some ⟨vb, 0, none⟩) (some ⟨cb, 0, none⟩) size (fun e => h (.inl e)) (fun e => h (.inr (.inl e))) (fun e => h (.inr (.inr e))) W)
 clear hV hC hcb hnb h
 go_enter_defers Tryz.func63, Tryz.ntmps63
 go_wp2_with fail
 refine (none_any _).mono ?_
 rintro e w1 ⟨rfl, hb1⟩
 have D1 := (Door.start HV.out).below hb1
 have D2 := Lib.hid (D1.set noF)
 obtain ⟨c0, c1, c2, cf, cl⟩ := D1.facts
 clear hb1 D1
 go_upto_region 2 with (fail)
 change Code.wp _ _ _ _ (sets3 w1 w.heap.size (.int .i64 noF.vec) (.int .i64 noF.cd) (.int .u32 (noF.cr2 : Nat)))
 clear c0 c1 c2 cf cl
 generalize sets3 w1 w.heap.size (.int .i64 noF.vec) (.int .i64 noF.cd) (.int .u32 (noF.cr2 : Nat)) = w2 at *
 generalize hG : w.heap.size = g at *
 clear hG
 have HCw := Lib.hid (D2.out.cpu HC.out HCB.out)
 go_wp2_with fail
 refine (cz.out _).mono ?_
 rintro e w3 ⟨rfl, rfl⟩
 obtain ⟨H9, hV9, M9⟩ : ∃ H9, Vm w2 vb places (n + 2) H9 R ∧ Moves H H9 w2 w2 := ⟨H, D2.out.vm.more (by omega), Keeps.refl _ _, fun k h => .inl h⟩
 exact (D2.out.move hV9 M9).gave ⟨13, 0, 0⟩ (vres rfl rfl rfl) (fun w5 D => D.vend 0)
end
end Go.Proofs.YtmpcafdgkbpneaaGreat

/- vmem: Sys. -/
namespace Go.Proofs.YtmpcafdgkbpneaaGreat
open Go.RowKit Go.MapKept
set_option linter.unusedVariables false
set_option linter.unusedSimpArgs false
attribute [local go_sem ↓] Go.wp_at_zero Go.wp_at_succ

section
variable {w w1 w' w2 : World} {vb cb : Nat} {places : Pl} {n n' g : Nat} {H H' H1 H2 : Nat → Prop} {R R' : RS} {C : CpuS} {f f' : FaultS}
theorem sys_ok (hV : Vm w vb places n H R) (hC : CpuAt w cb C) (hcb : ¬ H cb) (lin : Nat) (hl : lin < 4294967296) (size : Nat) (hs : size = 1 ∨ size = 2 ∨ size = 4) {s : SpanS} {R' : RS} (hp : pg R C lin size false false = (.ok s, R')) (hnb : (n + 2) * 12 ≤ 140737488355328) :
    Calls Tryz.prog 63 #[.pointer (some ⟨vb, 0, none⟩), .pointer (some ⟨cb, 0, none⟩), .int .u32 (lin : Nat), .int .i64 (size : Nat)] w (VEnd w vb places n H (ldOf (sy R C lin (size : Int) false))) := by
 rw [show sy R C lin (size : Int) false = (.ok s, R') by rw [sy_yes hs, hp]; rfl]
 have HV := Lib.hid hV
 have HC := Lib.hid hC
 have HCB := Lib.hid hcb
 have HN := Lib.hid hnb
 have HP := Lib.hid hp
 have HS := Lib.hid hs
 have HF := Lib.hid (pg_fits hV.wide hl (by omega) hC.1.cr3 hp).1
 have cz := Lib.hid (fun W => sized_ok vb cb (size : Int) (by omega) W)
 clear hV hC hcb hnb hp hs
 go_enter_defers Tryz.func63, Tryz.ntmps63
 go_wp2_with fail
 refine (none_any _).mono ?_
 rintro e w1 ⟨rfl, hb1⟩
 have D1 := (Door.start HV.out).below hb1
 have D2 := Lib.hid ((D1.set noF).below (Below.refl _ _).drew)
 obtain ⟨c0, c1, c2, cf, cl⟩ := D1.facts
 clear hb1 D1
 go_upto_region 4 with (go_at_call 136; refine (cz.out _).mono ?_; rintro e w' ⟨rfl, rfl⟩)
 change Code.wp _ _ _ _ (sets3 w1 w.heap.size (.int .i64 noF.vec) (.int .i64 noF.cd) (.int .u32 (noF.cr2 : Nat)))
 clear c0 c1 c2 cf cl
 generalize sets3 w1 w.heap.size (.int .i64 noF.vec) (.int .i64 noF.cd) (.int .u32 (noF.cr2 : Nat)) = w2 at *
 generalize hG : w.heap.size = g at *
 clear hG
 have HCw := Lib.hid (D2.out.cpu HC.out HCB.out)
 have cs := Lib.hid (pages_ok D2.out.vm HCw.out.1 HCw.out.2 lin size hl HS.out false false false HN.out _ _ rfl rfl (by rw [HP.out]))
 obtain ⟨c0, c1, c2, cf, cl⟩ := D2.out.facts
 go_region_held3 (fun w' => w'.cell? ⟨g, 0, none⟩ = some (.int .i64 noF.vec) ∧ w'.cell? ⟨g, 1, none⟩ = some (.int .i64 noF.cd) ∧ w'.cell? ⟨g, 2, none⟩ = some (.int .u32 (noF.cr2 : Nat)))
  (first | exact ⟨c0, c1, c2⟩ | exact ⟨q0, q1, q2⟩ | exact ⟨p0, p1, p2⟩ | exact ⟨x0, x1, x2⟩)
  (first
  | (go_at_call 137; refine (cs.out).mono ?_; rintro e w3 ⟨rfl, H3, hV3, M3⟩; rw [HP.out] at hV3; have D3 := Lib.hid (D2.out.move hV3 M3); obtain ⟨q0, q1, q2, qf, ql⟩ := D3.out.facts; clear hV3 M3)
  | (go_at_call 104; refine (get_span D3.out.vm HF.out).mono ?_; rintro e w4 ⟨rfl, hb4⟩; have D4 := Lib.hid (D3.out.below hb4); obtain ⟨p0, p1, p2, pf, pl⟩ := D4.out.facts; have D5 := Lib.hid (D4.out.set noF); obtain ⟨x0, x1, x2, -, -⟩ := D5.out.facts; clear hb4))
 all_goals
  go_wp2_with fail
  exact D5.out.idle (vres rfl rfl rfl) (fun w5 D => D.vend _)
theorem sys_no (hV : Vm w vb places n H R) (hC : CpuAt w cb C) (hcb : ¬ H cb) (lin : Nat) (hl : lin < 4294967296) (size : Nat) (hs : size = 1 ∨ size = 2 ∨ size = 4) {cd : Int} {a : Nat} {R' : RS} (hp : pg R C lin size false false = (.fault cd a, R')) (hnb : (n + 2) * 12 ≤ 140737488355328) :
    Calls Tryz.prog 63 #[.pointer (some ⟨vb, 0, none⟩), .pointer (some ⟨cb, 0, none⟩), .int .u32 (lin : Nat), .int .i64 (size : Nat)] w (VEnd w vb places n H (ldOf (sy R C lin (size : Int) false))) := by
 rw [show sy R C lin (size : Int) false = (.no 14 cd a, R') by rw [sy_yes hs, hp]; rfl]
 have HV := Lib.hid hV
 have HC := Lib.hid hC
 have HCB := Lib.hid hcb
 have HN := Lib.hid hnb
 have HP := Lib.hid hp
 have HS := Lib.hid hs
 have cz := Lib.hid (fun W => sized_ok vb cb (size : Int) (by omega) W)
 clear hV hC hcb hnb hp hs
 go_enter_defers Tryz.func63, Tryz.ntmps63
 go_wp2_with fail
 refine (none_any _).mono ?_
 rintro e w1 ⟨rfl, hb1⟩
 have D1 := (Door.start HV.out).below hb1
 have D2 := Lib.hid ((D1.set noF).below (Below.refl _ _).drew)
 obtain ⟨c0, c1, c2, cf, cl⟩ := D1.facts
 clear hb1 D1
 go_upto_region 4 with (go_at_call 136; refine (cz.out _).mono ?_; rintro e w' ⟨rfl, rfl⟩)
 change Code.wp _ _ _ _ (sets3 w1 w.heap.size (.int .i64 noF.vec) (.int .i64 noF.cd) (.int .u32 (noF.cr2 : Nat)))
 clear c0 c1 c2 cf cl
 generalize sets3 w1 w.heap.size (.int .i64 noF.vec) (.int .i64 noF.cd) (.int .u32 (noF.cr2 : Nat)) = w2 at *
 generalize hG : w.heap.size = g at *
 clear hG
 have HCw := Lib.hid (D2.out.cpu HC.out HCB.out)
 have cs := Lib.hid (pages_no D2.out.vm HCw.out.1 HCw.out.2 lin size hl HS.out false false false HN.out _ _ rfl rfl (by rw [HP.out]))
 obtain ⟨c0, c1, c2, -, -⟩ := D2.out.facts
 refine wp_region_held_drew (S := fun w' => w'.cell? ⟨g, 0, none⟩ = some (.int .i64 noF.vec) ∧ w'.cell? ⟨g, 1, none⟩ = some (.int .i64 noF.cd) ∧ w'.cell? ⟨g, 2, none⟩ = some (.int .u32 (noF.cr2 : Nat))) (by kernel_rfl) ⟨c0, c1, c2⟩ (fun hHeld => ?_)
 clear c0 c1 c2
 refine wpAnyH_take (i := 0) (oi := _) (v := ?_) rfl (by kernel_rfl) (by kernel_rfl) (by kernel_rfl) (panicD_put rfl (by decide) (by decide) _) (Or.inl ⟨by rfl, ?_⟩) (by assumption) ?_
 rotate_left
 ·(intro w hSw; (try dsimp only at hSw); go_simp <;> rfl)
 simp only [Act.put, List.getElem_toArray, List.getElem_cons_zero, List.getElem_cons_succ, List.setIfInBounds_toArray, List.set_cons_zero, List.set_cons_succ]
 refine wpAnyH_take (i := 1) (oi := _) (v := ?_) rfl (by kernel_rfl) (by kernel_rfl) (by kernel_rfl) (panicD_put rfl (by decide) (by decide) _) (Or.inl ⟨by rfl, ?_⟩) (by assumption) ?_
 rotate_left
 ·(intro w hSw; (try dsimp only at hSw); go_simp <;> rfl)
 simp only [Act.put, List.getElem_toArray, List.getElem_cons_zero, List.getElem_cons_succ, List.setIfInBounds_toArray, List.set_cons_zero, List.set_cons_succ]
 refine wpAnyH_take (i := 2) (oi := _) (v := ?_) rfl (by kernel_rfl) (by kernel_rfl) (by kernel_rfl) (panicD_put rfl (by decide) (by decide) _) (Or.inl ⟨by rfl, ?_⟩) (by assumption) ?_
 rotate_left
 ·(intro w hSw; (try dsimp only at hSw); go_simp <;> rfl)
 simp only [Act.put, List.getElem_toArray, List.getElem_cons_zero, List.getElem_cons_succ, List.setIfInBounds_toArray, List.set_cons_zero, List.set_cons_succ]
 refine wpAnyH_take (i := 3) (oi := _) (v := ?_) rfl (by kernel_rfl) (by kernel_rfl) (by kernel_rfl) (panicD_put rfl (by decide) (by decide) _) (Or.inl ⟨by rfl, ?_⟩) (by assumption) ?_
 rotate_left
 ·(intro w hSw; (try dsimp only at hSw); go_simp <;> rfl)
 simp only [Act.put, List.getElem_toArray, List.getElem_cons_zero, List.getElem_cons_succ, List.setIfInBounds_toArray, List.set_cons_zero, List.set_cons_succ]
 refine wpAnyH_take (i := 4) (oi := _) (v := ?_) rfl (by kernel_rfl) (by kernel_rfl) (by kernel_rfl) (panicD_put rfl (by decide) (by decide) _) (Or.inl ⟨by rfl, ?_⟩) (by assumption) ?_
 rotate_left
 ·(intro w hSw; (try dsimp only at hSw); go_simp <;> rfl)
 simp only [Act.put, List.getElem_toArray, List.getElem_cons_zero, List.getElem_cons_succ, List.setIfInBounds_toArray, List.set_cons_zero, List.set_cons_succ]
 refine wpAnyH_take (i := 5) (oi := _) (v := ?_) rfl (by kernel_rfl) (by kernel_rfl) (by kernel_rfl) (panicD_put rfl (by decide) (by decide) _) (Or.inl ⟨by rfl, ?_⟩) (by assumption) ?_
 rotate_left
 ·(intro w hSw; (try dsimp only at hSw); go_simp <;> rfl)
 simp only [Act.put, List.getElem_toArray, List.getElem_cons_zero, List.getElem_cons_succ, List.setIfInBounds_toArray, List.set_cons_zero, List.set_cons_succ]
 refine wpAnyH_take (i := 8) (oi := _) (v := ?_) rfl (by kernel_rfl) (by kernel_rfl) (by kernel_rfl) (panicD_put rfl (by decide) (by decide) _) (Or.inl ⟨by rfl, ?_⟩) (by assumption) ?_
 rotate_left
 ·(intro w hSw; (try dsimp only at hSw); go_simp <;> rfl)
 simp only [Act.put, List.getElem_toArray, List.getElem_cons_zero, List.getElem_cons_succ, List.setIfInBounds_toArray, List.set_cons_zero, List.set_cons_succ]
 refine wpAnyH_ready (rs := [6]) (by kernel_rfl) (by simp) (AllReadyH.cons (i := 6) (o := _) rfl (fun K1 hK1 => ?_) AllReadyH.nil)
 simp only [List.getElem_toArray, List.getElem_cons_zero, List.getElem_cons_succ]
 go_simp
 refine (cs.out).mono ?_
 rintro e w3 ⟨rfl, H3, hV3, M3⟩
 rw [HP.out] at hV3
 exact (D2.out.move hV3 M3).gave ⟨14, cd, a⟩ (vres rfl rfl rfl) (fun w5 D => D.vend 0)
theorem pg_cases (R : RS) (C : CpuS) (lin size : Nat) (wr us : Bool) : (∃ s R', pg R C lin size wr us = (.ok s, R')) ∨ (∃ cd a R', pg R C lin size wr us = (.fault cd a, R')) := by
 obtain ⟨⟨a, R'⟩, h⟩ : ∃ r, pg R C lin size wr us = r := ⟨_, rfl⟩
 cases a with
 | ok s => exact .inl ⟨s, R', h⟩
 | fault cd a => exact .inr ⟨cd, a, R', h⟩
theorem sys_any (hV : Vm w vb places n H R) (hC : CpuAt w cb C) (hcb : ¬ H cb) (lin : Nat) (hl : lin < 4294967296) (size : Int) (hnb : (n + 2) * 12 ≤ 140737488355328) :
    Calls Tryz.prog 63 #[.pointer (some ⟨vb, 0, none⟩), .pointer (some ⟨cb, 0, none⟩), .int .u32 (lin : Nat), .int .i64 size] w (VEnd w vb places n H (ldOf (sy R C lin size false))) := by
 by_cases hs : isSize size
 ·obtain ⟨k, rfl⟩ : ∃ k : Nat, size = k := ⟨size.toNat, by rcases hs with rfl | rfl | rfl <;> rfl⟩
  have hk : k = 1 ∨ k = 2 ∨ k = 4 := by unfold isSize at hs; omega
  rcases pg_cases R C lin k false false with ⟨s, R', h⟩ | ⟨cd, a, R', h⟩
  ·exact sys_ok hV hC hcb lin hl k hk h hnb
  ·exact sys_no hV hC hcb lin hl k hk h hnb
 ·exact sys_bad hV hC hcb lin hl size hs hnb
end
end Go.Proofs.YtmpcafdgkbpneaaGreat

/- vmem: Code. -/
namespace Go.Proofs.YtmpcafdgkbpneaaGreat
open Go.RowKit Go.MapKept
set_option linter.unusedVariables false
set_option linter.unusedSimpArgs false
attribute [local go_sem ↓] Go.wp_at_zero Go.wp_at_succ

section
variable {w w1 w' w2 : World} {vb cb : Nat} {places : Pl} {n n' g : Nat} {H H' H1 H2 : Nat → Prop} {R R' : RS} {C : CpuS} {f f' : FaultS}
end
end Go.Proofs.YtmpcafdgkbpneaaGreat

/- Bits of words as arithmetic: fields, masks, disjoint sums. No program in sight. -/
namespace Go.Proofs.YtmpcafdgkbpneaaGreat
open Go.RowKit

theorem nat_field (x s k : Nat) : x &&& ((2 ^ k - 1) * 2 ^ s) = x / 2 ^ s % 2 ^ k * 2 ^ s := by
 rw [← Nat.shiftLeft_eq, ← Nat.shiftLeft_eq, ← Nat.shiftRight_eq_div_pow]
 apply Nat.eq_of_testBit_eq
 intro i
 simp only [Nat.testBit_and, Nat.testBit_shiftLeft, Nat.testBit_mod_two_pow, Nat.testBit_shiftRight, Nat.testBit_two_pow_sub_one]
 by_cases h : s ≤ i
 ·have : s + (i - s) = i := by omega
  simp [h, this, Bool.and_comm]
 ·simp [h]

theorem and_field_u32 (x m : Int) (s k : Nat) (h0 : 0 ≤ x) (h1 : x < 4294967296) (hm : m.toNat = (2 ^ k - 1) * 2 ^ s) (hm0 : 0 ≤ m) (hm1 : m < 4294967296) :
    bits .and .u32 x m = x / (2 ^ s : Nat) % (2 ^ k : Nat) * (2 ^ s : Nat) := by
 rw [u32_and x m h0 h1 hm0 hm1, hm, nat_field]
 obtain ⟨n, rfl⟩ := Int.eq_ofNat_of_zero_le h0
 simp

theorem or_join_u32 (x y : Int) (i : Nat) (h0 : 0 ≤ x) (h1 : x < 4294967296) (h2 : 0 ≤ y) (h3 : y < 4294967296) (hx : x % (2 ^ i : Nat) = 0) (hy : y < (2 ^ i : Nat)) :
    bits .or .u32 x y = x + y := by
 obtain ⟨a, rfl⟩ := Int.eq_ofNat_of_zero_le h0
 obtain ⟨b, rfl⟩ := Int.eq_ofNat_of_zero_le h2
 rw [u32_or _ _ h0 h1 h2 h3]
 simp only [Int.toNat_natCast]
 rw [nat_join i a b (by exact_mod_cast hx) (by exact_mod_cast hy)]
 simp

theorem or_comm_u32 (x y : Int) (h0 : 0 ≤ x) (h1 : x < 4294967296) (h2 : 0 ≤ y) (h3 : y < 4294967296) : bits .or .u32 x y = bits .or .u32 y x := by
 rw [u32_or _ _ h0 h1 h2 h3, u32_or _ _ h2 h3 h0 h1, Nat.or_comm]

-- DESCRIPTORS
def pLim0 (lo hi : Int) : Int := lo % 65536 + hi / 65536 % 16 * 65536
def pBase (lo hi : Int) : Int := lo / 65536 + hi % 256 * 65536 + hi / 16777216 * 16777216
def pTy (hi : Int) : Int := hi / 256 % 16
def pDpl (hi : Int) : Int := hi / 8192 % 4
def hbit (n k : Int) : Bool := n / 2 ^ k.toNat % 2 == 1
def pLimit (lo hi : Int) : Int := if hbit hi 23 then pLim0 lo hi * 4096 + 4095 else pLim0 lo hi

section
variable (lo hi : Int) (h0 : 0 ≤ lo) (h1 : lo < 4294967296) (h2 : 0 ≤ hi) (h3 : hi < 4294967296)
include h0 h1 h2 h3
theorem lim0_eq : bits .or .u32 (bits .and .u32 lo 65535) (bits .and .u32 hi 983040) = pLim0 lo hi := by
 have e1 := and_field_u32 lo 65535 0 16 h0 h1 (by decide) (by decide) (by decide)
 have e2 := and_field_u32 hi 983040 16 4 h2 h3 (by decide) (by decide) (by decide)
 simp only [Nat.pow_zero, Nat.reducePow] at e1 e2
 rw [e1, e2]
 rw [or_comm_u32 _ _ (by omega) (by omega) (by omega) (by omega), or_join_u32 _ _ 16 (by omega) (by omega) (by omega) (by omega) (by simp only [Nat.reducePow]; omega) (by simp only [Nat.reducePow]; omega)]
 unfold pLim0
 omega
omit h0 h1 h2 h3 in
theorem lim0_bd : 0 ≤ pLim0 lo hi ∧ pLim0 lo hi < 1048576 := by unfold pLim0; omega
omit h0 h1 h2 h3 in
theorem lim1_eq : bits .or .u32 (pLim0 lo hi * 4096 % 4294967296) 4095 = pLim0 lo hi * 4096 + 4095 := by
 have := lim0_bd lo hi
 rw [or_join_u32 _ _ 12 (by omega) (by omega) (by omega) (by omega) (by simp only [Nat.reducePow]; omega) (by simp only [Nat.reducePow]; omega)]
 omega
theorem base_eq : bits .or .u32 (bits .or .u32 (lo / 65536) (bits .and .u32 hi 255 * 65536 % 4294967296)) (bits .and .u32 hi 4278190080) = pBase lo hi := by
 have e1 : bits .and .u32 hi 255 = hi % 256 := by
  have := and_field_u32 hi 255 0 8 h2 h3 (by decide) (by decide) (by decide)
  simp only [Nat.pow_zero, Nat.reducePow] at this
  omega
 have e2 : bits .and .u32 hi 4278190080 = hi / 16777216 * 16777216 := by
  have := and_field_u32 hi 4278190080 24 8 h2 h3 (by decide) (by decide) (by decide)
  simp only [Nat.reducePow] at this
  omega
 have e3 : bits .or .u32 (lo / 65536) (hi % 256 * 65536 % 4294967296) = lo / 65536 + hi % 256 * 65536 := by
  rw [or_comm_u32 (lo / 65536) (hi % 256 * 65536 % 4294967296) (by omega) (by omega) (by omega) (by omega), or_join_u32 _ _ 16 (by omega) (by omega) (by omega) (by omega) (by simp only [Nat.reducePow]; omega) (by simp only [Nat.reducePow]; omega)]
  omega
 have e4 : bits .or .u32 (lo / 65536 + hi % 256 * 65536) (hi / 16777216 * 16777216) = lo / 65536 + hi % 256 * 65536 + hi / 16777216 * 16777216 := by
  rw [or_comm_u32 (lo / 65536 + hi % 256 * 65536) (hi / 16777216 * 16777216) (by omega) (by omega) (by omega) (by omega), or_join_u32 _ _ 24 (by omega) (by omega) (by omega) (by omega) (by simp only [Nat.reducePow]; omega) (by simp only [Nat.reducePow]; omega)]
  omega
 rw [e1, e2, e3, e4]
 rfl
end
section
variable (hi : Int) (h2 : 0 ≤ hi) (h3 : hi < 4294967296)
include h2 h3
theorem ty_eq : wrap64 (bits .and .u32 (hi / 256) 15) = pTy hi := by
 have e1 := and_field_u32 (hi / 256) 15 0 4 (by omega) (by omega) (by decide) (by decide) (by decide)
 simp only [Nat.pow_zero, Nat.reducePow] at e1
 rw [e1, IntWalk.wrap64_in _ (by omega)]
 unfold pTy; omega
theorem dpl_eq : wrap64 (bits .and .u32 (hi / 8192) 3) = pDpl hi := by
 have e1 := and_field_u32 (hi / 8192) 3 0 2 (by omega) (by omega) (by decide) (by decide) (by decide)
 simp only [Nat.pow_zero, Nat.reducePow] at e1
 rw [e1, IntWalk.wrap64_in _ (by omega)]
 unfold pDpl; omega
theorem hbit_eq (k : Int) : (bits .and .u32 (hi / 2 ^ k.toNat) 1 == 1) = hbit hi k := by
 have hd : hi / 2 ^ k.toNat ≤ hi := Int.ediv_le_self _ h2
 have hp : 0 ≤ hi / 2 ^ k.toNat := Int.ediv_nonneg h2 (Int.le_of_lt (Int.pow_pos (by decide)))
 have e1 := and_field_u32 (hi / 2 ^ k.toNat) 1 0 1 hp (by omega) (by decide) (by decide) (by decide)
 simp only [Nat.pow_zero, Nat.reducePow] at e1
 rw [e1]
 unfold hbit
 simp
end
end Go.Proofs.YtmpcafdgkbpneaaGreat

