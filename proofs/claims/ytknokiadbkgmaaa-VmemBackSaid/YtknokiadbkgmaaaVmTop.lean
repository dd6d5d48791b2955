/- VmQ, VmS, VmT, VmU, VmW, together. -/
import Derived.Test.YtknokiadbkgmaaaVmIO
import Derived.Test.YtknokiadbkgmaaaKp
import Derived.Test.YtknokiadbkgmaaaVmA
import Derived.Deep.MidRow
import Derived.Laws.CopyOwn
import Derived.Test.YtknokiadbkgmaaaTri
/- vmem: calls on none, or of no processor. -/
namespace Go.Proofs.Ytknokiadbkgmaaa
open Go.RowKit Go.MapKept
set_option linter.unusedVariables false
set_option linter.unusedSimpArgs false
attribute [local go_sem ↓] Go.wp_at_zero Go.wp_at_succ

/-- The fault's block, and nothing else. -/
structure DoorN (w w1 : World) (g : Nat) (f : FaultS) : Prop where
  b : Below w.heap.size w w1
  new : w.heap.size ≤ g
  box : w1.heap[g]? = some (.cells f.cells 25)
section
variable {w w1 w' w2 : World} {g : Nat} {f f' : FaultS}
theorem DoorN.keeps (h : DoorN w w1 g f) (hk : Keeps (· = g) w1 w') (hf : w'.heap[g]? = some (.cells f'.cells 25)) : DoorN w w' g f' :=
  ⟨Keeps.toBelow h.b hk h.b.size (fun i e => by rw [e]; exact h.new), h.new, hf⟩
theorem DoorN.below (h : DoorN w w1 g f) (hb : Below w1.heap.size w1 w') : DoorN w w' g f := h.keeps (Keeps.ofBelow hb) (heap_below hb h.box)
theorem DoorN.start (w : World) : DoorN w (w.alloc (.cells #[.int .i64 0, .int .i64 0, .int .u32 0] 25)) w.heap.size ⟨0, 0, 0⟩ :=
  ⟨(Below.refl _ _).alloc (Nat.le_refl _) _, Nat.le_refl _, heap_new w _⟩
theorem DoorN.set (h : DoorN w w1 g f) (f' : FaultS) : DoorN w (sets3 w1 g (.int .i64 f'.vec) (.int .i64 f'.cd) (.int .u32 (f'.cr2 : Nat))) g f' :=
  h.keeps (keeps_sets3 _ _ _ _ _) (block_sets3 h.box _ _ _)
theorem DoorN.facts (h : DoorN w w1 g f) : w1.cell? ⟨g, 0, none⟩ = some (.int .i64 f.vec) ∧ w1.cell? ⟨g, 1, none⟩ = some (.int .i64 f.cd) ∧ w1.cell? ⟨g, 2, none⟩ = some (.int .u32 (f.cr2 : Nat)) ∧ (∀ k, w1.frozen? ⟨g, k, none⟩ = false) ∧ g < w1.heap.size :=
  ⟨by rw [cell_at h.box]; rfl, by rw [cell_at h.box]; rfl, by rw [cell_at h.box]; rfl, fun k => free_at h.box, heap_lt h.box⟩
theorem DoorN.gave (h : DoorN w w1 g f) (f' : FaultS) {fn : Func} {tmps : Array Value} {v : Value} {post : Ending → World → Prop} (hres : ∀ w5 : World, w5.heap[g]? = some (.cells f'.cells 25) → (results fn tmps).run Try.prog w5 = .ok v w5) (hpost : ∀ w5, DoorN w w5 g f' → post (.returned v) w5) :
    bodyPostD Try.prog fn post (Exit.panic [{ v := faultV f'.vec f'.cd f'.cr2, recovered := false }]) ⟨tmps, [{ target := .fn (.func 31) #[], args := #[.pointer (some ⟨g, 0, none⟩)] }]⟩ w1 := by
  refine leaves_cons (f := 31) (args := #[.pointer (some ⟨g, 0, none⟩)]) (by simp) (by simp [go_sem]) ?_
  refine (caught_panic g _ _ _ f'.vec f'.cd f'.cr2 [] _ h.box).mono ?_
  rintro e u' w5 ⟨rfl, rfl, hf, hk⟩
  have D := h.keeps hk hf
  exact ⟨v, hres _ D.box, hpost _ D⟩
/-- The size is refused. -/
def Gives (m c : Value) (s : Int) : Prop := ∀ W : World, Calls Try.prog 34 #[m, c, .int .i64 s] W fun e w' => e = gaveUp 13 0 0 ∧ W = w'
theorem gives_nil (c : Value) (s : Int) : Gives (.pointer none) c s := fun W => sized_nil c s W
theorem gives_nilc (a : Addr) (s : Int) : Gives (.pointer (some a)) (.pointer none) s := fun W => sized_nilc a s W
theorem segment_z (m c : Value) (seg : Int) (off : Nat) (size : Int) (wr : Bool) (h : Gives m c size) (w : World) :
    Calls Try.prog 33 #[m, c, .int .i64 seg, .int .u32 (off : Nat), .int .i64 size, .bool wr] w fun e w' => e = .panicked [{ v := faultV 13 0 0, recovered := false }] ∧ Below w.heap.size w w' := by
  have H := Lib.hid h
  clear h
  go_enter Try.func33, Try.ntmps33
  go_wp2_with (go_at_call 34; refine (H.out _).mono ?_; rintro e w' ⟨he, rfl⟩; unfold gaveUp faultV at he; subst he)
  exact ⟨rfl, rfl, (Below.refl _ _).alloc (Nat.le_refl _) _⟩
set_option maxRecDepth 20000 in
set_option maxHeartbeats 2000000 in
theorem check_z (m c : Value) (seg : Int) (off : Nat) (size : Int) (h : Gives m c size) (w : World) :
    Calls Try.prog 18 #[m, c, .int .i64 seg, .int .u32 (off : Nat), .int .i64 size] w fun e w' => e = .returned (.agg #[.int .i64 13, .int .i64 0, .int .u32 0]) ∧ Below w.heap.size w w' := by
  have H := Lib.hid h
  clear h
  go_enter_defers Try.func18, Try.ntmps18
  go_wp2_with fail
  refine (none_any _).mono ?_
  rintro e w1 ⟨rfl, hb1⟩
  have D1 := (DoorN.start w).below hb1
  have D2 := Lib.hid (D1.set noF)
  obtain ⟨c0, c1, c2, cf, cl⟩ := D1.facts
  clear hb1 D1
  go_upto_region 2 with (fail)
  change Code.wp _ _ _ _ (sets3 w1 w.heap.size (.int .i64 noF.vec) (.int .i64 noF.cd) (.int .u32 (noF.cr2 : Nat)))
  clear c0 c1 c2 cf cl
  generalize sets3 w1 w.heap.size (.int .i64 noF.vec) (.int .i64 noF.cd) (.int .u32 (noF.cr2 : Nat)) = w2 at *
  generalize hG : w.heap.size = g at *
  have HG := Lib.hid hG
  clear hG
  go_wp2_with fail
  refine (segment_z m c seg off size true H.out w2).mono ?_
  rintro e w3 ⟨rfl, hb3⟩
  exact (D2.out.below hb3).gave ⟨13, 0, 0⟩ (fres rfl rfl) (fun w5 D => ⟨rfl, D.b⟩)
set_option maxRecDepth 20000 in
set_option maxHeartbeats 2000000 in
theorem store_z (m c : Value) (seg : Int) (off : Nat) (size : Int) (v : Nat) (h : Gives m c size) (w : World) :
    Calls Try.prog 15 #[m, c, .int .i64 seg, .int .u32 (off : Nat), .int .i64 size, .int .u32 (v : Nat)] w fun e w' => e = .returned (.agg #[.int .i64 13, .int .i64 0, .int .u32 0]) ∧ Below w.heap.size w w' := by
  have H := Lib.hid h
  clear h
  go_enter_defers Try.func15, Try.ntmps15
  go_wp2_with fail
  refine (none_any _).mono ?_
  rintro e w1 ⟨rfl, hb1⟩
  have D1 := (DoorN.start w).below hb1
  have D2 := Lib.hid (D1.set noF)
  obtain ⟨c0, c1, c2, cf, cl⟩ := D1.facts
  clear hb1 D1
  go_upto_region 2 with (fail)
  change Code.wp _ _ _ _ (sets3 w1 w.heap.size (.int .i64 noF.vec) (.int .i64 noF.cd) (.int .u32 (noF.cr2 : Nat)))
  clear c0 c1 c2 cf cl
  generalize sets3 w1 w.heap.size (.int .i64 noF.vec) (.int .i64 noF.cd) (.int .u32 (noF.cr2 : Nat)) = w2 at *
  generalize hG : w.heap.size = g at *
  have HG := Lib.hid hG
  clear hG
  go_wp2_with fail
  refine (segment_z m c seg off size true H.out w2).mono ?_
  rintro e w3 ⟨rfl, hb3⟩
  exact (D2.out.below hb3).gave ⟨13, 0, 0⟩ (fres rfl rfl) (fun w5 D => ⟨rfl, D.b⟩)
set_option maxRecDepth 20000 in
set_option maxHeartbeats 2000000 in
theorem setsys_z (m c : Value) (lin : Nat) (size : Int) (v : Nat) (h : Gives m c size) (w : World) :
    Calls Try.prog 16 #[m, c, .int .u32 (lin : Nat), .int .i64 size, .int .u32 (v : Nat)] w fun e w' => e = .returned (.agg #[.int .i64 13, .int .i64 0, .int .u32 0]) ∧ Below w.heap.size w w' := by
  have H := Lib.hid h
  clear h
  go_enter_defers Try.func16, Try.ntmps16
  go_wp2_with fail
  refine (none_any _).mono ?_
  rintro e w1 ⟨rfl, hb1⟩
  have D1 := (DoorN.start w).below hb1
  have D2 := Lib.hid (D1.set noF)
  obtain ⟨c0, c1, c2, cf, cl⟩ := D1.facts
  clear hb1 D1
  go_upto_region 2 with (fail)
  change Code.wp _ _ _ _ (sets3 w1 w.heap.size (.int .i64 noF.vec) (.int .i64 noF.cd) (.int .u32 (noF.cr2 : Nat)))
  clear c0 c1 c2 cf cl
  generalize sets3 w1 w.heap.size (.int .i64 noF.vec) (.int .i64 noF.cd) (.int .u32 (noF.cr2 : Nat)) = w2 at *
  generalize hG : w.heap.size = g at *
  have HG := Lib.hid hG
  clear hG
  go_wp2_with fail
  refine (H.out w2).mono ?_
  rintro e w3 ⟨rfl, rfl⟩
  exact (D2.out).gave ⟨13, 0, 0⟩ (fres rfl rfl) (fun w5 D => ⟨rfl, D.b⟩)
set_option maxRecDepth 20000 in
set_option maxHeartbeats 2000000 in
theorem sys_z (m c : Value) (lin : Nat) (size : Int) (h : Gives m c size) (w : World) :
    Calls Try.prog 17 #[m, c, .int .u32 (lin : Nat), .int .i64 size] w fun e w' => e = .returned (.tuple #[.int .u32 0, .agg #[.int .i64 13, .int .i64 0, .int .u32 0]]) ∧ Below w.heap.size w w' := by
  have H := Lib.hid h
  clear h
  go_enter_defers Try.func17, Try.ntmps17
  go_wp2_with fail
  refine (none_any _).mono ?_
  rintro e w1 ⟨rfl, hb1⟩
  have D1 := (DoorN.start w).below hb1
  have D2 := Lib.hid (D1.set noF)
  obtain ⟨c0, c1, c2, cf, cl⟩ := D1.facts
  clear hb1 D1
  go_upto_region 3 with (fail)
  change Code.wp _ _ _ _ (sets3 w1 w.heap.size (.int .i64 noF.vec) (.int .i64 noF.cd) (.int .u32 (noF.cr2 : Nat)))
  clear c0 c1 c2 cf cl
  generalize sets3 w1 w.heap.size (.int .i64 noF.vec) (.int .i64 noF.cd) (.int .u32 (noF.cr2 : Nat)) = w2 at *
  generalize hG : w.heap.size = g at *
  have HG := Lib.hid hG
  clear hG
  go_wp2_with fail
  refine (H.out w2).mono ?_
  rintro e w3 ⟨rfl, rfl⟩
  exact (D2.out).gave ⟨13, 0, 0⟩ (vres rfl rfl rfl) (fun w5 D => ⟨rfl, D.b⟩)
set_option maxRecDepth 20000 in
set_option maxHeartbeats 2000000 in
theorem code_z (m c : Value) (off : Nat) (h : Gives m c 1) (w : World) :
    Calls Try.prog 14 #[m, c, .int .u32 (off : Nat)] w fun e w' => e = .returned (.tuple #[.int .u8 0, .int .u32 0, .agg #[.int .i64 13, .int .i64 0, .int .u32 0]]) ∧ Below w.heap.size w w' := by
  have H := Lib.hid h
  clear h
  go_enter_defers Try.func14, Try.ntmps14
  go_wp2_with fail
  refine (none_any _).mono ?_
  rintro e w1 ⟨rfl, hb1⟩
  have D1 := (DoorN.start w).below hb1
  have D2 := Lib.hid (D1.set noF)
  obtain ⟨c0, c1, c2, cf, cl⟩ := D1.facts
  clear hb1 D1
  go_upto_region 3 with (fail)
  change Code.wp _ _ _ _ (sets3 w1 w.heap.size (.int .i64 noF.vec) (.int .i64 noF.cd) (.int .u32 (noF.cr2 : Nat)))
  clear c0 c1 c2 cf cl
  generalize sets3 w1 w.heap.size (.int .i64 noF.vec) (.int .i64 noF.cd) (.int .u32 (noF.cr2 : Nat)) = w2 at *
  generalize hG : w.heap.size = g at *
  have HG := Lib.hid hG
  clear hG
  go_wp2_with fail
  refine (H.out w2).mono ?_
  rintro e w3 ⟨rfl, rfl⟩
  exact (D2.out).gave ⟨13, 0, 0⟩ (cres rfl rfl rfl rfl) (fun w5 D => ⟨rfl, D.b⟩)
set_option maxRecDepth 20000 in
set_option maxHeartbeats 2000000 in
theorem load_z (m c : Value) (seg : Int) (off : Nat) (size : Int) (h : Gives m c size) (w : World) :
    Calls Try.prog 13 #[m, c, .int .i64 seg, .int .u32 (off : Nat), .int .i64 size] w fun e w' => e = .returned (.tuple #[.int .u32 0, .agg #[.int .i64 13, .int .i64 0, .int .u32 0]]) ∧ Below w.heap.size w w' := by
  have H := Lib.hid h
  clear h
  go_enter_defers Try.func13, Try.ntmps13
  go_wp2_with fail
  refine (none_any _).mono ?_
  rintro e w1 ⟨rfl, hb1⟩
  have D1 := (DoorN.start w).below hb1
  have D2 := Lib.hid (D1.set noF)
  obtain ⟨c0, c1, c2, cf, cl⟩ := D1.facts
  clear hb1 D1
  go_upto_region 3 with (fail)
  change Code.wp _ _ _ _ (sets3 w1 w.heap.size (.int .i64 noF.vec) (.int .i64 noF.cd) (.int .u32 (noF.cr2 : Nat)))
  clear c0 c1 c2 cf cl
  generalize sets3 w1 w.heap.size (.int .i64 noF.vec) (.int .i64 noF.cd) (.int .u32 (noF.cr2 : Nat)) = w2 at *
  generalize hG : w.heap.size = g at *
  have HG := Lib.hid hG
  clear hG
  have D3 := D2.out.below (Below.refl _ _).drew
  have HD := Lib.hid D3
  obtain ⟨c0, c1, c2, -, -⟩ := D3.facts
  clear D3
  refine wp_region_held_drew (S := fun w' => w'.cell? ⟨g, 0, none⟩ = some (.int .i64 noF.vec) ∧ w'.cell? ⟨g, 1, none⟩ = some (.int .i64 noF.cd) ∧ w'.cell? ⟨g, 2, none⟩ = some (.int .u32 (noF.cr2 : Nat))) (by kernel_rfl) ⟨c0, c1, c2⟩ (fun hHeld => ?_)
  clear c0 c1 c2
  refine wpAnyH_take (i := 0) (oi := _) (v := ?_) rfl (by kernel_rfl) (by kernel_rfl) (by kernel_rfl) (panicD_put rfl (by decide) (by decide) _) (Or.inl ⟨by rfl, ?_⟩) (by assumption) ?_
  rotate_left
  · (intro w hSw; (try dsimp only at hSw); go_simp <;> rfl)
  simp only [Act.put, List.getElem_toArray, List.getElem_cons_zero, List.getElem_cons_succ, List.setIfInBounds_toArray, List.set_cons_zero, List.set_cons_succ]
  refine wpAnyH_take (i := 1) (oi := _) (v := ?_) rfl (by kernel_rfl) (by kernel_rfl) (by kernel_rfl) (panicD_put rfl (by decide) (by decide) _) (Or.inl ⟨by rfl, ?_⟩) (by assumption) ?_
  rotate_left
  · (intro w hSw; (try dsimp only at hSw); go_simp <;> rfl)
  simp only [Act.put, List.getElem_toArray, List.getElem_cons_zero, List.getElem_cons_succ, List.setIfInBounds_toArray, List.set_cons_zero, List.set_cons_succ]
  refine wpAnyH_take (i := 2) (oi := _) (v := ?_) rfl (by kernel_rfl) (by kernel_rfl) (by kernel_rfl) (panicD_put rfl (by decide) (by decide) _) (Or.inl ⟨by rfl, ?_⟩) (by assumption) ?_
  rotate_left
  · (intro w hSw; (try dsimp only at hSw); go_simp <;> rfl)
  simp only [Act.put, List.getElem_toArray, List.getElem_cons_zero, List.getElem_cons_succ, List.setIfInBounds_toArray, List.set_cons_zero, List.set_cons_succ]
  refine wpAnyH_take (i := 3) (oi := _) (v := ?_) rfl (by kernel_rfl) (by kernel_rfl) (by kernel_rfl) (panicD_put rfl (by decide) (by decide) _) (Or.inl ⟨by rfl, ?_⟩) (by assumption) ?_
  rotate_left
  · (intro w hSw; (try dsimp only at hSw); go_simp <;> rfl)
  simp only [Act.put, List.getElem_toArray, List.getElem_cons_zero, List.getElem_cons_succ, List.setIfInBounds_toArray, List.set_cons_zero, List.set_cons_succ]
  refine wpAnyH_take (i := 4) (oi := _) (v := ?_) rfl (by kernel_rfl) (by kernel_rfl) (by kernel_rfl) (panicD_put rfl (by decide) (by decide) _) (Or.inl ⟨by rfl, ?_⟩) (by assumption) ?_
  rotate_left
  · (intro w hSw; (try dsimp only at hSw); go_simp <;> rfl)
  simp only [Act.put, List.getElem_toArray, List.getElem_cons_zero, List.getElem_cons_succ, List.setIfInBounds_toArray, List.set_cons_zero, List.set_cons_succ]
  refine wpAnyH_take (i := 5) (oi := _) (v := ?_) rfl (by kernel_rfl) (by kernel_rfl) (by kernel_rfl) (panicD_put rfl (by decide) (by decide) _) (Or.inl ⟨by rfl, ?_⟩) (by assumption) ?_
  rotate_left
  · (intro w hSw; (try dsimp only at hSw); go_simp <;> rfl)
  simp only [Act.put, List.getElem_toArray, List.getElem_cons_zero, List.getElem_cons_succ, List.setIfInBounds_toArray, List.set_cons_zero, List.set_cons_succ]
  refine wpAnyH_take (i := 8) (oi := _) (v := ?_) rfl (by kernel_rfl) (by kernel_rfl) (by kernel_rfl) (panicD_put rfl (by decide) (by decide) _) (Or.inl ⟨by rfl, ?_⟩) (by assumption) ?_
  rotate_left
  · (intro w hSw; (try dsimp only at hSw); go_simp <;> rfl)
  simp only [Act.put, List.getElem_toArray, List.getElem_cons_zero, List.getElem_cons_succ, List.setIfInBounds_toArray, List.set_cons_zero, List.set_cons_succ]
  refine wpAnyH_ready (rs := [6]) (by kernel_rfl) (by simp) (AllReadyH.cons (i := 6) (o := _) rfl (fun K1 hK1 => ?_) AllReadyH.nil)
  simp only [List.getElem_toArray, List.getElem_cons_zero, List.getElem_cons_succ]
  go_simp
  refine (segment_z m c seg off size false H.out _).mono ?_
  rintro e w3 ⟨rfl, hb3⟩
  exact (HD.out.below hb3).gave ⟨13, 0, 0⟩ (vres rfl rfl rfl) (fun w5 D => ⟨rfl, D.b⟩)
theorem vflush_nil (w : World) : Calls Try.prog 21 #[.pointer none] w fun e w' => e = .returned (.tuple #[]) ∧ w = w' := by
  go_enter Try.func21, Try.ntmps21
  go_wp2_with fail
  go_end0
  exact ⟨rfl, rfl⟩
theorem vdrop_nil (w : World) (x : Int) : Calls Try.prog 22 #[.pointer none, .int .u32 x] w fun e w' => e = .returned (.tuple #[]) ∧ w = w' := by
  go_enter Try.func22, Try.ntmps22
  go_wp2_with fail
  go_end0
  exact ⟨rfl, rfl⟩
theorem vram_nil (w : World) : Calls Try.prog 23 #[.pointer none] w fun e w' => e = .returned (.pointer none) ∧ w = w' := by
  go_enter Try.func23, Try.ntmps23
  go_wp2_with fail
  go_ret
  exact ⟨rfl, rfl⟩
theorem vnew_nil (w : World) (x : Int) : Calls Try.prog 12 #[.pointer none, .int .i64 x] w fun e w' => e = .returned (.tuple #[.pointer none, .int .i64 1]) ∧ w = w' := by
  go_enter Try.func12, Try.ntmps12
  go_wp2_with fail
  refine (tnew_nil _ _).mono ?_
  rintro e w1 ⟨rfl, rfl⟩
  go_wp2_with fail
  go_ret2
  exact ⟨rfl, rfl⟩
theorem vnew_any {b : Nat} {S : Nat → Prop} {R : RS} (h : Ram w b S R) (hw : Wide R) (m : Nat) (hm : m ≤ 64) (x : Int) (hx : x = (m : Int)) : Calls Try.prog 12 #[.pointer (some ⟨b, 0, none⟩), .int .i64 x] w fun e w' =>
    ∃ vb H, e = .returned (.tuple #[.pointer (some ⟨vb, 0, none⟩), .int .i64 0]) ∧ Vm w' vb ⟨m, b⟩ 0 H R ∧ Moves S H w w' := by
  have HN := Lib.hid (tl_new h hw m hm x hx)
  clear h hx hw hm
  go_enter Try.func12, Try.ntmps12
  go_wp2_with fail
  refine HN.out.mono ?_
  rintro e w1 ⟨tb, H, rfl, hT, hM, -⟩
  have HT := Lib.hid (And.intro hT hM)
  clear hT hM
  go_wp2_with fail
  go_ret2
  obtain ⟨hT, hM⟩ := HT.out
  have hK : Kq w1 tb b ⟨m, b⟩ 0 H R := by
    obtain ⟨mb, S', ov, all, order, T, hl, hH⟩ := hT
    exact ⟨mb, S', ov, 0, all, order, T, ⟨hl, rfl⟩, hH⟩
  refine ⟨w1.heap.size, fun k => k = w1.heap.size ∨ H k, rfl, ⟨tb, b, H, heap_new w1 _, hK.of_heap fun k hk => Below.heap_alloc _ _ _ (hK.lt k hk), fun h => by have := hK.lt _ h; omega, fun k => Iff.rfl⟩, ?_⟩
  have hM2 : Moves S H w (w1.alloc (.cells #[.pointer (some ⟨b, 0, none⟩), .pointer (some ⟨tb, 0, none⟩)] 83)) := hM.below ((Below.refl _ _).alloc (Nat.le_refl _) _)
  refine ⟨hM2.1, fun k hk => ?_⟩
  rcases hk with rfl | hk
  · exact .inr hM.1.size
  · exact hM.2 k hk
theorem vram_any {vb : Nat} {places : Pl} {n : Nat} {H : Nat → Prop} {R : RS} (h : Vm w vb places n H R) : Calls Try.prog 23 #[.pointer (some ⟨vb, 0, none⟩)] w fun e w' => (e = .returned (.pointer (some ⟨places.rb, 0, none⟩)) ∧ ∃ S, Ram w places.rb S R) ∧ w = w' := by
  obtain ⟨tb, rb, G, ho, hK, _, _⟩ := h
  obtain ⟨S, hR, _⟩ := hK.ram
  have hrb : rb = places.rb := by obtain ⟨_, _, _, _, _, _, _, hl, _⟩ := hK; exact hl.2
  subst hrb
  have HR := Lib.hid hR
  have c0 := cell_at (k := 0) ho
  have cl := heap_lt ho
  simp at c0
  clear ho hK hR
  go_enter Try.func23, Try.ntmps23
  go_wp2_with fail
  go_ret
  exact ⟨⟨rfl, S, HR.out⟩, rfl⟩
end
end Go.Proofs.Ytknokiadbkgmaaa

/- vmem: Flat. -/
namespace Go.Proofs.Ytknokiadbkgmaaa
open Go.RowKit Go.MapKept
set_option linter.unusedVariables false

def flatSeg (sel : Nat) (typ k : Int) : SegR := ⟨sel, false, 0, 4294967295, typ, false, k, true, true⟩
def noSeg : SegR := ⟨0, false, 0, 0, 0, false, 0, false, false⟩
/-- A processor of a ring, with flat segments. -/
def flatC (k : Int) : CpuS :=
  { r := fun _ => 0, eip := 0, flags := 2, seg := fun i => if i = 1 then flatSeg ((8 + k) % 65536).toNat 10 k else flatSeg ((16 + k) % 65536).toNat 2 k, cr0 := 1, cr2 := 0, cr3 := 0, gb := 0, gl := 0, ib := 0, il := 0, tr := noSeg, shadow := false, halted := false, dead := false }
theorem wrap_sel (k m : Int) : IntKind.u16.wrap (m + IntKind.u16.wrap k) = (((m + k) % 65536).toNat : Int) := by
  rw [IntKind.wrap_u16, IntKind.wrap_u16]; omega
theorem info83 : (Try.prog.info? 38).map (·.size) = some 83 := by kernel_rfl
def zero83C : Array Value := #[.int .u32 0, .int .u32 0, .int .u32 0, .int .u32 0, .int .u32 0, .int .u32 0, .int .u32 0, .int .u32 0, .int .u32 0, .int .u32 0, .int .u16 0, .bool false, .int .u32 0, .int .u32 0, .int .i64 0, .bool false, .int .i64 0, .bool false, .bool false, .int .u16 0, .bool false, .int .u32 0, .int .u32 0, .int .i64 0, .bool false, .int .i64 0, .bool false, .bool false, .int .u16 0, .bool false, .int .u32 0, .int .u32 0, .int .i64 0, .bool false, .int .i64 0, .bool false, .bool false, .int .u16 0, .bool false, .int .u32 0, .int .u32 0, .int .i64 0, .bool false, .int .i64 0, .bool false, .bool false, .int .u16 0, .bool false, .int .u32 0, .int .u32 0, .int .i64 0, .bool false, .int .i64 0, .bool false, .bool false, .int .u16 0, .bool false, .int .u32 0, .int .u32 0, .int .i64 0, .bool false, .int .i64 0, .bool false, .bool false, .int .u32 0, .int .u32 0, .int .u32 0, .int .u32 0, .int .u16 0, .int .u32 0, .int .u16 0, .int .u16 0, .bool false, .int .u32 0, .int .u32 0, .int .i64 0, .bool false, .int .i64 0, .bool false, .bool false, .bool false, .bool false, .bool false]
set_option maxRecDepth 100000 in
theorem zero83 (w : World) : (zeroValue 38).run Try.prog w = .ok (.agg #[.int .u32 0, .int .u32 0, .int .u32 0, .int .u32 0, .int .u32 0, .int .u32 0, .int .u32 0, .int .u32 0, .int .u32 0, .int .u32 0, .int .u16 0, .bool false, .int .u32 0, .int .u32 0, .int .i64 0, .bool false, .int .i64 0, .bool false, .bool false, .int .u16 0, .bool false, .int .u32 0, .int .u32 0, .int .i64 0, .bool false, .int .i64 0, .bool false, .bool false, .int .u16 0, .bool false, .int .u32 0, .int .u32 0, .int .i64 0, .bool false, .int .i64 0, .bool false, .bool false, .int .u16 0, .bool false, .int .u32 0, .int .u32 0, .int .i64 0, .bool false, .int .i64 0, .bool false, .bool false, .int .u16 0, .bool false, .int .u32 0, .int .u32 0, .int .i64 0, .bool false, .int .i64 0, .bool false, .bool false, .int .u16 0, .bool false, .int .u32 0, .int .u32 0, .int .i64 0, .bool false, .int .i64 0, .bool false, .bool false, .int .u32 0, .int .u32 0, .int .u32 0, .int .u32 0, .int .u16 0, .int .u32 0, .int .u16 0, .int .u16 0, .bool false, .int .u32 0, .int .u32 0, .int .i64 0, .bool false, .int .i64 0, .bool false, .bool false, .bool false, .bool false, .bool false]) w := by kernel_rfl
set_option maxRecDepth 100000 in
theorem flat_one (k : Int) : (flatC k).cells.toArray.all (·.oneCell') = true := by kernel_rfl
set_option maxRecDepth 100000 in
set_option maxHeartbeats 4000000 in
theorem flat_any (ring : Int) (w : World) :
    Calls Try.prog 10 #[.int .i64 ring] w fun e w' => e = .returned (.agg (flatC (ring.tmod 4)).cells.toArray) ∧ Below w.heap.size w w' := by
  generalize hk : ring.tmod 4 = k
  have hz := fun w => zero83 w
  go_enter Try.func10, Try.ntmps10
  go_wp2_with fail
  refine wp_loop_rounds 7 ?_
  rw [rounds_succ]
  go_wp2_with fail
  rw [rounds_succ]
  go_wp2_with fail
  rw [rounds_succ]
  go_wp2_with fail
  rw [rounds_succ]
  go_wp2_with fail
  rw [rounds_succ]
  go_wp2_with fail
  rw [rounds_succ]
  go_wp2_with fail
  rw [rounds_succ]
  go_upto_region 12 with (fail)
  rw [hk] at *
  simp only [wrap_sel]
  have hc := heap_alloc_lt (o' := .cells #[.int .u32 0, .int .u32 4294967295, .int .i64 2, .bool false, .int .i64 k, .bool true, .bool true] 31) (heap_alloc_lt (o' := .cells #[.int .u32 0, .int .u32 4294967295, .int .i64 10, .bool false, .int .i64 k, .bool true, .bool true] 31) (heap_new (w.alloc (.cells zero83C 38)) (.cells (flatC k).cells.toArray 38)))
  have hr := heap_alloc_lt (o' := .cells #[.int .u32 0, .int .u32 4294967295, .int .i64 2, .bool false, .int .i64 k, .bool true, .bool true] 31) (heap_alloc_lt (o' := .cells #[.int .u32 0, .int .u32 4294967295, .int .i64 10, .bool false, .int .i64 k, .bool true, .bool true] 31) (heap_alloc_lt (o' := .cells (flatC k).cells.toArray 38) (heap_new w (.cells zero83C 38))))
  have hb : Below w.heap.size w ((((w.alloc (.cells zero83C 38)).alloc (.cells (flatC k).cells.toArray 38)).alloc (.cells #[.int .u32 0, .int .u32 4294967295, .int .i64 10, .bool false, .int .i64 k, .bool true, .bool true] 31)).alloc (.cells #[.int .u32 0, .int .u32 4294967295, .int .i64 2, .bool false, .int .i64 k, .bool true, .bool true] 31)) := ((((Below.refl _ _).alloc (Nat.le_refl _) _).alloc (by simp) _).alloc (by simp; omega) _).alloc (by simp; omega) _
  change Code.wp _ _ _ _ ((((w.alloc (.cells zero83C 38)).alloc (.cells (flatC k).cells.toArray 38)).alloc (.cells #[.int .u32 0, .int .u32 4294967295, .int .i64 10, .bool false, .int .i64 k, .bool true, .bool true] 31)).alloc (.cells #[.int .u32 0, .int .u32 4294967295, .int .i64 2, .bool false, .int .i64 k, .bool true, .bool true] 31))
  simp only [show (w.alloc (.cells zero83C 38)).heap.size = w.heap.size + 1 by simp] at hc
  have HB := Lib.hid hb
  have HC := Lib.hid hc
  have HR := Lib.hid hr
  clear hb hc hr hz
  generalize (((w.alloc (.cells zero83C 38)).alloc (.cells (flatC k).cells.toArray 38)).alloc (.cells #[.int .u32 0, .int .u32 4294967295, .int .i64 10, .bool false, .int .i64 k, .bool true, .bool true] 31)).alloc (.cells #[.int .u32 0, .int .u32 4294967295, .int .i64 2, .bool false, .int .i64 k, .bool true, .bool true] 31) = W at *
  go_wp2_with (first | (refine wpList_load_row rfl _ _ rfl (w.heap.size + 1) rfl _ _ _ _ HC.out Try.underlying38 rfl info83 ?_) | (refine wpList_store_row rfl _ _ _ rfl w.heap.size (flatC k).cells.toArray rfl rfl _ _ HR.out info83 rfl (flat_one k) ?_))
  refine bodyPost_ret (v := .agg (flatC k).cells.toArray) (results_cell_row rfl _ _ w.heap.size _ _ _ _ rfl (setRow_heap W _ _ _ _ _ HR.out) Try.underlying38 rfl info83) rfl ⟨rfl, ?_⟩
  exact below_setRow HB.out (Nat.le_refl _) _
end Go.Proofs.Ytknokiadbkgmaaa

/- vmem: one of up to three objects, and boxes; the head of all statements. -/
namespace Go.Proofs.Ytknokiadbkgmaaa
open Go.RowKit Go.MapKept
set_option linter.unusedVariables false

def VmO (vb : Nat) (places : Pl) (n : Nat) (R : RS) : World → (Nat → Prop) → Prop := fun w H => Vm w vb places n H R
theorem VmO.local (vb : Nat) (places : Pl) (n : Nat) (R : RS) : Local (VmO vb places n R) := fun w w' H h e => Vm.of_heap h e
section
variable {w0 w w' wF : World} {PB PC : World → (Nat → Prop) → Prop} {F : Nat → Prop} {vb cb : Nat} {places : Pl} {n : Nat} {R R' : RS} {C : CpuS}
theorem Tri.cpu {PA : World → (Nat → Prop) → Prop} (T : Tri w0 w PA PB PC F wF) (hF : F cb) (hC : CpuAt wF cb C) : CpuAt w cb C := hC.of_heap (T.box hF)
theorem tri_vm {f : FuncId} {args : Array Value} {Qe : Ending → Prop} (T : Tri w0 w (VmO vb places n R) PB PC F wF) (LB : Local PB) (LC : Local PC) (hF : F cb) (hC : CpuAt wF cb C)
    (h : ∀ H, Vm w vb places n H R → CpuAt w cb C → ¬ H cb → Calls Try.prog f args w fun e w' => Qe e ∧ ∃ H', Vm w' vb places (n + 2) H' R' ∧ Moves H H' w w') :
    Calls Try.prog f args w fun e w' => Qe e ∧ Tri w0 w' (VmO vb places (n + 2) R') PB PC F wF := by
  have hcpu := T.cpu hF hC
  obtain ⟨A, B, D, s, a, b, c, g⟩ := T
  refine (h A a hcpu (g cb hF).2.1).mono ?_
  rintro e w' ⟨hq, A', a', M⟩
  have hl : ∀ k, A' k → k < w'.heap.size := a'.lt
  refine ⟨hq, A', B, D, s.move M hl, a', LB _ _ _ b fun k h => s.same_b M h, LC _ _ _ c fun k h => s.same_c M h, fun k h => ?_⟩
  obtain ⟨h1, h2, h3, h4, h6, h5⟩ := g k h
  refine ⟨Nat.lt_of_lt_of_le h1 M.1.size, fun h => ?_, h3, h4, h6, (M.1.block k h1 h2).trans h5⟩
  rcases M.2 k h with h | h
  · exact h2 h
  · omega
theorem tri_load (T : Tri w0 w (VmO vb places n R) PB PC F wF) (LB : Local PB) (LC : Local PC) (hF : F cb) (hC : CpuAt wF cb C) (seg : Int) (off : Nat) (size : Int) (ho : off < 4294967296) (hnb : (n + 2) * 12 ≤ 140737488355328) {v : Nat} {f : FaultS} (hr : ld R C seg off size = ((v, f), R')) :
    Calls Try.prog 13 #[.pointer (some ⟨vb, 0, none⟩), .pointer (some ⟨cb, 0, none⟩), .int .i64 seg, .int .u32 (off : Nat), .int .i64 size] w fun e w' => e = .returned (.tuple #[.int .u32 (v : Nat), .agg #[.int .i64 f.vec, .int .i64 f.cd, .int .u32 (f.cr2 : Nat)]]) ∧ Tri w0 w' (VmO vb places (n + 2) R') PB PC F wF :=
  tri_vm (Qe := fun e => e = .returned (.tuple #[.int .u32 (v : Nat), .agg #[.int .i64 f.vec, .int .i64 f.cd, .int .u32 (f.cr2 : Nat)]])) T LB LC hF hC fun H hV hCw hcb => (load_any hV hCw hcb seg off size ho hnb).mono fun e w' h => by rw [hr] at h; exact h
theorem tri_store (T : Tri w0 w (VmO vb places n R) PB PC F wF) (LB : Local PB) (LC : Local PC) (hF : F cb) (hC : CpuAt wF cb C) (seg : Int) (off : Nat) (size : Int) (ho : off < 4294967296) (v : Nat) (hv : v < 4294967296) (hnb : (n + 2) * 12 ≤ 140737488355328) {f : FaultS} (hr : st R C seg off size v = (f, R')) :
    Calls Try.prog 15 #[.pointer (some ⟨vb, 0, none⟩), .pointer (some ⟨cb, 0, none⟩), .int .i64 seg, .int .u32 (off : Nat), .int .i64 size, .int .u32 (v : Nat)] w fun e w' => e = .returned (.agg #[.int .i64 f.vec, .int .i64 f.cd, .int .u32 (f.cr2 : Nat)]) ∧ Tri w0 w' (VmO vb places (n + 2) R') PB PC F wF :=
  tri_vm (Qe := fun e => e = .returned (.agg #[.int .i64 f.vec, .int .i64 f.cd, .int .u32 (f.cr2 : Nat)])) T LB LC hF hC fun H hV hCw hcb => (store_any hV hCw hcb seg off size ho v hv hnb).mono fun e w' h => by rw [hr] at h; exact h
theorem tri_check (T : Tri w0 w (VmO vb places n R) PB PC F wF) (LB : Local PB) (LC : Local PC) (hF : F cb) (hC : CpuAt wF cb C) (seg : Int) (off : Nat) (size : Int) (ho : off < 4294967296) (hnb : (n + 2) * 12 ≤ 140737488355328) {f : FaultS} (hr : ck R C seg off size = (f, R')) :
    Calls Try.prog 18 #[.pointer (some ⟨vb, 0, none⟩), .pointer (some ⟨cb, 0, none⟩), .int .i64 seg, .int .u32 (off : Nat), .int .i64 size] w fun e w' => e = .returned (.agg #[.int .i64 f.vec, .int .i64 f.cd, .int .u32 (f.cr2 : Nat)]) ∧ Tri w0 w' (VmO vb places (n + 2) R') PB PC F wF :=
  tri_vm (Qe := fun e => e = .returned (.agg #[.int .i64 f.vec, .int .i64 f.cd, .int .u32 (f.cr2 : Nat)])) T LB LC hF hC fun H hV hCw hcb => (check_any hV hCw hcb seg off size ho hnb).mono fun e w' h => by rw [hr] at h; exact h
theorem tri_sys (T : Tri w0 w (VmO vb places n R) PB PC F wF) (LB : Local PB) (LC : Local PC) (hF : F cb) (hC : CpuAt wF cb C) (lin : Nat) (size : Int) (hl : lin < 4294967296) (hnb : (n + 2) * 12 ≤ 140737488355328) {v : Nat} {f : FaultS} (hr : ldOf (sy R C lin size false) = ((v, f), R')) :
    Calls Try.prog 17 #[.pointer (some ⟨vb, 0, none⟩), .pointer (some ⟨cb, 0, none⟩), .int .u32 (lin : Nat), .int .i64 size] w fun e w' => e = .returned (.tuple #[.int .u32 (v : Nat), .agg #[.int .i64 f.vec, .int .i64 f.cd, .int .u32 (f.cr2 : Nat)]]) ∧ Tri w0 w' (VmO vb places (n + 2) R') PB PC F wF :=
  tri_vm (Qe := fun e => e = .returned (.tuple #[.int .u32 (v : Nat), .agg #[.int .i64 f.vec, .int .i64 f.cd, .int .u32 (f.cr2 : Nat)]])) T LB LC hF hC fun H hV hCw hcb => (sys_any hV hCw hcb lin hl size hnb).mono fun e w' h => by rw [hr] at h; exact h
theorem tri_setsys (T : Tri w0 w (VmO vb places n R) PB PC F wF) (LB : Local PB) (LC : Local PC) (hF : F cb) (hC : CpuAt wF cb C) (lin : Nat) (size : Int) (hl : lin < 4294967296) (v : Nat) (hv : v < 4294967296) (hnb : (n + 2) * 12 ≤ 140737488355328) {f : FaultS} (hr : stOf v (sy R C lin size true) = (f, R')) :
    Calls Try.prog 16 #[.pointer (some ⟨vb, 0, none⟩), .pointer (some ⟨cb, 0, none⟩), .int .u32 (lin : Nat), .int .i64 size, .int .u32 (v : Nat)] w fun e w' => e = .returned (.agg #[.int .i64 f.vec, .int .i64 f.cd, .int .u32 (f.cr2 : Nat)]) ∧ Tri w0 w' (VmO vb places (n + 2) R') PB PC F wF :=
  tri_vm (Qe := fun e => e = .returned (.agg #[.int .i64 f.vec, .int .i64 f.cd, .int .u32 (f.cr2 : Nat)])) T LB LC hF hC fun H hV hCw hcb => (setsys_any hV hCw hcb lin hl size v hv hnb).mono fun e w' h => by rw [hr] at h; exact h
theorem tri_code (T : Tri w0 w (VmO vb places n R) PB PC F wF) (LB : Local PB) (LC : Local PC) (hF : F cb) (hC : CpuAt wF cb C) (off : Nat) (ho : off < 4294967296) (hnb : (n + 2) * 12 ≤ 140737488355328) {v a : Nat} {f : FaultS} (hr : cdr R C off = ((v, a, f), R')) :
    Calls Try.prog 14 #[.pointer (some ⟨vb, 0, none⟩), .pointer (some ⟨cb, 0, none⟩), .int .u32 (off : Nat)] w fun e w' => e = .returned (.tuple #[.int .u8 (v : Nat), .int .u32 (a : Nat), .agg #[.int .i64 f.vec, .int .i64 f.cd, .int .u32 (f.cr2 : Nat)]]) ∧ Tri w0 w' (VmO vb places (n + 2) R') PB PC F wF :=
  tri_vm (Qe := fun e => e = .returned (.tuple #[.int .u8 (v : Nat), .int .u32 (a : Nat), .agg #[.int .i64 f.vec, .int .i64 f.cd, .int .u32 (f.cr2 : Nat)]])) T LB LC hF hC fun H hV hCw hcb => (code_any hV hCw hcb off ho hnb).mono fun e w' h => by rw [hr] at h; exact h
theorem tri_vnew {b : Nat} (T : Tri w0 w (fun w S => Ram w b S R) PB PC F wF) (LB : Local PB) (LC : Local PC) (hw : Wide R) (m : Nat) (hm : m ≤ 64) (x : Int) (hx : x = (m : Int)) : Calls Try.prog 12 #[.pointer (some ⟨b, 0, none⟩), .int .i64 x] w fun e w' =>
    ∃ vb, e = .returned (.tuple #[.pointer (some ⟨vb, 0, none⟩), .int .i64 0]) ∧ Tri w0 w' (VmO vb ⟨m, b⟩ 0 R) PB PC F wF := by
  obtain ⟨A, B, D, s, a, bb, c, g⟩ := T
  refine (vnew_any a hw m hm x hx).mono ?_
  rintro e w' ⟨vb, A', he, a', M⟩
  have hl : ∀ k, A' k → k < w'.heap.size := a'.lt
  refine ⟨vb, he, A', B, D, s.move M hl, a', LB _ _ _ bb fun k h => s.same_b M h, LC _ _ _ c fun k h => s.same_c M h, fun k h => ?_⟩
  obtain ⟨h1, h2, h3, h4, h6, h5⟩ := g k h
  refine ⟨Nat.lt_of_lt_of_le h1 M.1.size, fun h => ?_, h3, h4, h6, (M.1.block k h1 h2).trans h5⟩
  rcases M.2 k h with h | h
  · exact h2 h
  · omega
/-- A new box. -/
theorem tri_box {PA : World → (Nat → Prop) → Prop} (T : Tri w0 w PA PB PC F wF) (LA : Local PA) (LB : Local PB) (LC : Local PC) (o : Obj) : Tri w0 (w.alloc o) PA PB PC (fun k => F k ∨ k = w.heap.size) (w.alloc o) :=
  T.boxes LA LB LC ((Below.refl _ _).alloc (Nat.le_refl _) o) fun k h => h.imp id fun h => ⟨by omega, by simp; omega⟩
/-- A memory of a pair that law09 made, as the first of three. -/
theorem tri_two {b b' : Nat} {S S' : Nat → Prop} (h : Two w w' b S R b' S' R) : Tri w w' (fun w S => Ram w b S R) Nothing Nothing none_ w' :=
  ⟨S, none_, none_, ⟨fun _ _ h => h, fun _ h => h.elim, fun _ h => h.elim, h.l1, fun _ h => h.elim, fun _ h => h.elim, fun k hk => h.m.lt hk, fun _ h => h.elim, fun _ h => h.elim, h.B⟩, h.m, fun _ h => h, fun _ h => h, fun _ h => h.elim⟩
/-- A further one. -/
theorem tri_more {b b' : Nat} {S S' : Nat → Prop} {R2 : RS} (T : Tri w0 w Nothing PB PC F wF) (LB : Local PB) (LC : Local PC) (h : Two w w' b S R2 b' S' R2) : Tri w0 w' (fun w S => Ram w b S R2) PB PC F wF :=
  T.new LB LC h.B h.m fun k hk => ⟨h.l1 k hk, h.m.lt hk⟩
end
theorem z32 : (0 : Nat) < 4294967296 := by decide
theorem z16 : (0 : Nat) < 65536 := by decide
theorem zi : (-9223372036854775808 : Int) ≤ 0 ∧ (0 : Int) ≤ 9223372036854775807 := by decide
theorem noSeg_ok : noSeg.ok := ⟨z16, z32, z32, zi, zi⟩
theorem flatSeg_ok (s : Nat) (t k : Int) (hs : s < 65536) (ht : -9223372036854775808 ≤ t ∧ t ≤ 9223372036854775807) (hk : -9223372036854775808 ≤ k ∧ k ≤ 9223372036854775807) : (flatSeg s t k).ok := ⟨hs, z32, (show (4294967295 : Nat) < 4294967296 by decide), ht, hk⟩
theorem flat_ok (k : Int) (h1 : -4 < k) (h2 : k < 4) : (flatC k).ok := by
  have hs : ∀ i, ((flatC k).seg i).ok := fun i => by
    show (if i = 1 then flatSeg ((8 + k) % 65536).toNat 10 k else flatSeg ((16 + k) % 65536).toNat 2 k).ok
    split
    · exact flatSeg_ok _ _ _ (by omega) (by decide) (by omega)
    · exact flatSeg_ok _ _ _ (by omega) (by decide) (by omega)
  exact ⟨fun i => z32, z32, (show (2 : Nat) < 4294967296 by decide), hs, (show (1 : Nat) < 4294967296 by decide), z32, z32, z32, z16, z32, z16, noSeg_ok⟩
theorem CpuAt.of_block {w : World} {b : Nat} {C : CpuS} {T : TypeId} (ok : C.ok) (h : w.heap[b]? = some (.cells C.cells.toArray T (0, 0))) : CpuAt w b C := ⟨ok, [], T, by rw [List.append_nil]; exact h⟩
end Go.Proofs.Ytknokiadbkgmaaa

/- vmem: the head of all statements. -/
namespace Go.Proofs.Ytknokiadbkgmaaa
open Go.RowKit Go.MapKept
set_option linter.unusedVariables false

def seg7 : SegR := ⟨16, false, 0, 7, 2, false, 0, true, true⟩
/-- Flat segments, but one that ends at 7. -/
def cpu7 : CpuS := { flatC 0 with seg := fun i => if i = 3 then seg7 else (flatC 0).seg i }
theorem cpu7_ok : cpu7.ok := by
  have h := flat_ok 0 (by decide) (by decide)
  have hs : ∀ i, (cpu7.seg i).ok := fun i => by
    show (if i = 3 then seg7 else (flatC 0).seg i).ok
    split
    · exact ⟨(show (16 : Nat) < 65536 by decide), z32, (show (7 : Nat) < 4294967296 by decide), (show (-9223372036854775808 : Int) ≤ 2 ∧ (2 : Int) ≤ 9223372036854775807 by decide), zi⟩
    · exact h.seg i
  exact ⟨h.r, h.eip, h.flags, hs, h.cr0, h.cr2, h.cr3, h.gb, h.gl, h.ib, h.il, h.tr⟩
theorem cpu7_cells : (flatC 0).cells.toArray.setIfInBounds 40 (.int .u32 7) = cpu7.cells.toArray := by kernel_rfl
def aw0 : RS := bothR 16 (fun _ => 0) (fun _ => 0) 0 (fun _ => 0) 0
def aw1 : RS := (st aw0 cpu7 3 4 4 16909060).2
theorem aw_a : (st aw0 cpu7 3 4 4 16909060).1 = noF := by kernel_rfl
theorem aw_b : ld aw1 cpu7 3 4 4 = ((16909060, noF), aw1) := by kernel_rfl
theorem aw_c : ld aw1 cpu7 3 5 4 = ((0, ⟨13, 0, 0⟩), aw1) := by kernel_rfl
theorem aw_d : ld aw1 cpu7 2 4294967295 2 = ((0, ⟨12, 0, 0⟩), aw1) := by kernel_rfl
set_option maxRecDepth 100000 in
theorem zero83n (w : World) : (zeroValue 38).run Try.prog w = .ok (.agg zero83C) w := zero83 w
theorem pair_of {α β : Type} {r : α × β} {a : α} (h : r.1 = a) : r = (a, r.2) := by rw [← h]
set_option maxRecDepth 100000 in
set_option maxHeartbeats 8000000 in
theorem awake16 (w : World) : Calls Try.prog 8 #[] w fun e w' => e = .returned (.bool true) ∧ Below w.heap.size w w' := by
  have E1 := Lib.hid (show st aw0 cpu7 3 4 4 16909060 = ((⟨-1, -1, 0⟩ : FaultS), aw1) from pair_of aw_a)
  have E2 := Lib.hid (show ld aw1 cpu7 3 4 4 = ((16909060, (⟨-1, -1, 0⟩ : FaultS)), aw1) from aw_b)
  have E3 := Lib.hid aw_c
  have E4 := Lib.hid aw_d
  have hz := fun w => zero83n w
  go_enter Try.func8, Try.ntmps8
  go_wp2_with fail
  refine (both_any w 16 none 0 0 (fun _ => 0) (fun _ => 0) (.inl rfl) none 0 0 (fun _ => 0) (.inl rfl) (by decide) (by decide)).mono ?_
  rintro e w1 ⟨b, S, b', S', rfl, T⟩
  have T1 := Lib.hid (tri_two T)
  clear T
  go_wp2_with fail
  refine (tri_vnew T1.out Nothing.local Nothing.local (Wide.both _ _ _ _ _ _) 4 (by decide) 4 rfl).mono ?_
  rintro e w2 ⟨vb, rfl, T2⟩
  have HT2 := Lib.hid T2
  clear T1 T2
  go_wp2_with fail
  refine (flat_any 0 w2).mono ?_
  rintro e w3 ⟨rfl, hb3⟩
  have HT3 := Lib.hid (HT2.out.below (VmO.local _ _ _ _) Nothing.local Nothing.local hb3)
  clear hb3 HT2
  have hx := heap_new w3 (.cells zero83C 38)
  have HX := Lib.hid hx
  have hb4 : Below w3.heap.size w3 (((w3.alloc (.cells zero83C 38)).setRow w3.heap.size (flatC 0).cells.toArray).setCell ⟨w3.heap.size, 40, none⟩ (.int .u32 7)) := (below_setRow ((Below.refl _ _).alloc (Nat.le_refl _) _) (Nat.le_refl _) _).setCell (Nat.le_refl _) _
  have hx4 : (((w3.alloc (.cells zero83C 38)).setRow w3.heap.size (flatC 0).cells.toArray).setCell ⟨w3.heap.size, 40, none⟩ (.int .u32 7)).heap[w3.heap.size]? = some (.cells cpu7.cells.toArray 38) := by
    rw [heap_set_same _ (setRow_heap _ _ _ _ _ _ hx), cpu7_cells]
  have HB4 := Lib.hid hb4
  have HX4 := Lib.hid hx4
  have HR := Lib.hid (setRow_heap _ w3.heap.size _ (flatC 0).cells.toArray _ _ hx)
  have c40 : ((w3.alloc (.cells zero83C 38)).setRow w3.heap.size (flatC 0).cells.toArray).cell? ⟨w3.heap.size, 40, none⟩ = some (.int .u32 4294967295) := by rw [cell_at HR.out]; rfl
  have f40 : ∀ k, ((w3.alloc (.cells zero83C 38)).setRow w3.heap.size (flatC 0).cells.toArray).frozen? ⟨w3.heap.size, k, none⟩ = false := fun k => free_at HR.out
  clear hb4 hx4 hx
  go_upto_region 7 with (first | (refine wpList_store_row rfl _ _ _ rfl w3.heap.size (flatC 0).cells.toArray rfl rfl _ _ HX.out info83 rfl (flat_one 0) ?_))
  have HT5 := Lib.hid (HT3.out.boxes (VmO.local _ _ _ _) Nothing.local Nothing.local HB4.out (F' := (· = w3.heap.size)) (fun k h => .inr ⟨by omega, by have := heap_lt HX4.out; omega⟩))
  clear HR c40 f40 HB4 HX HT3
  generalize ((w3.alloc (.cells zero83C 38)).setRow w3.heap.size (flatC 0).cells.toArray).setCell ⟨w3.heap.size, 40, none⟩ (.int .u32 7) = w5 at *
  generalize hG : w3.heap.size = cb at *
  clear hG hz
  have HC := Lib.hid (CpuAt.of_block cpu7_ok HX4.out)
  clear HX4
  go_wp2_with fail
  refine (tri_store (cb := cb) (wF := w5) HT5.out Nothing.local Nothing.local rfl HC.out 3 4 4 (by decide) 16909060 (by decide) (by decide) E1.out).mono ?_
  rintro e w6 ⟨rfl, T6⟩
  have HT6 := Lib.hid T6
  clear T6 HT5
  go_upto_region 8 with (fail)
  have HCn := Lib.hid ((HT6.out.cpu rfl HC.out).below ((Below.refl _ _).alloc (Nat.le_refl _) (.cells #[.int .i64 (-1), .int .i64 (-1), .int .u32 0] 25)))
  have HTn := Lib.hid (tri_box HT6.out (VmO.local _ _ _ _) Nothing.local Nothing.local (.cells #[.int .i64 (-1), .int .i64 (-1), .int .u32 0] 25))
  have Xn := Lib.hid (heap_new w6 (.cells #[.int .i64 (-1), .int .i64 (-1), .int .u32 0] 25))
  clear HC HT6
  generalize hW : w6.alloc (.cells #[.int .i64 (-1), .int .i64 (-1), .int .u32 0] 25) = w6x at *
  generalize hG : w6.heap.size = g6 at *
  clear hW hG
  have HC := Lib.hid HCn.out
  have HTa := Lib.hid HTn.out
  have Xg6 := Lib.hid Xn.out
  clear HCn HTn Xn
  go_wp2_with fail
  refine (tri_load (cb := cb) HTa.out Nothing.local Nothing.local (by simp) HC.out 3 4 4 (by decide) (by decide) E2.out).mono ?_
  rintro e w7 ⟨rfl, T⟩
  have HTb := Lib.hid T
  clear T
  go_upto_region 9 with (fail)
  have Yg6 := Lib.hid (heap_alloc_lt (o' := (.cells #[.int .i64 (-1), .int .i64 (-1), .int .u32 0] 25)) ((HTb.out.box (by simp)).trans Xg6.out))
  have HCn := Lib.hid ((HTb.out.cpu (by simp) HC.out).below ((Below.refl _ _).alloc (Nat.le_refl _) (.cells #[.int .i64 (-1), .int .i64 (-1), .int .u32 0] 25)))
  have HTn := Lib.hid (tri_box HTb.out (VmO.local _ _ _ _) Nothing.local Nothing.local (.cells #[.int .i64 (-1), .int .i64 (-1), .int .u32 0] 25))
  have Xn := Lib.hid (heap_new w7 (.cells #[.int .i64 (-1), .int .i64 (-1), .int .u32 0] 25))
  clear HTa HC Xg6 HTb
  generalize hW : w7.alloc (.cells #[.int .i64 (-1), .int .i64 (-1), .int .u32 0] 25) = w7x at *
  generalize hG : w7.heap.size = g7 at *
  clear hW hG
  have HC := Lib.hid HCn.out
  have HTa := Lib.hid HTn.out
  have Xg7 := Lib.hid Xn.out
  have Xg6 := Lib.hid Yg6.out
  clear HCn HTn Xn Yg6
  go_wp2_with fail
  refine (tri_load (cb := cb) HTa.out Nothing.local Nothing.local (by simp) HC.out 3 5 4 (by decide) (by decide) E3.out).mono ?_
  rintro e w8 ⟨rfl, T⟩
  have HTb := Lib.hid T
  clear T
  go_upto_region 10 with (fail)
  have Yg6 := Lib.hid (heap_alloc_lt (o' := (.cells #[.int .i64 (13), .int .i64 (0), .int .u32 0] 25)) ((HTb.out.box (by simp)).trans Xg6.out))
  have Yg7 := Lib.hid (heap_alloc_lt (o' := (.cells #[.int .i64 (13), .int .i64 (0), .int .u32 0] 25)) ((HTb.out.box (by simp)).trans Xg7.out))
  have HCn := Lib.hid ((HTb.out.cpu (by simp) HC.out).below ((Below.refl _ _).alloc (Nat.le_refl _) (.cells #[.int .i64 (13), .int .i64 (0), .int .u32 0] 25)))
  have HTn := Lib.hid (tri_box HTb.out (VmO.local _ _ _ _) Nothing.local Nothing.local (.cells #[.int .i64 (13), .int .i64 (0), .int .u32 0] 25))
  have Xn := Lib.hid (heap_new w8 (.cells #[.int .i64 (13), .int .i64 (0), .int .u32 0] 25))
  clear HTa HC Xg6 Xg7 HTb
  generalize hW : w8.alloc (.cells #[.int .i64 (13), .int .i64 (0), .int .u32 0] 25) = w8x at *
  generalize hG : w8.heap.size = g8 at *
  clear hW hG
  have HC := Lib.hid HCn.out
  have HTa := Lib.hid HTn.out
  have Xg8 := Lib.hid Xn.out
  have Xg6 := Lib.hid Yg6.out
  have Xg7 := Lib.hid Yg7.out
  clear HCn HTn Xn Yg6 Yg7
  go_wp2_with fail
  refine (tri_load (cb := cb) HTa.out Nothing.local Nothing.local (by simp) HC.out 2 4294967295 2 (by decide) (by decide) E4.out).mono ?_
  rintro e w9 ⟨rfl, T⟩
  have HTb := Lib.hid T
  clear T
  go_upto_region 11 with (fail)
  have Yg6 := Lib.hid (heap_alloc_lt (o' := (.cells #[.int .i64 (12), .int .i64 (0), .int .u32 0] 25)) ((HTb.out.box (by simp)).trans Xg6.out))
  have Yg7 := Lib.hid (heap_alloc_lt (o' := (.cells #[.int .i64 (12), .int .i64 (0), .int .u32 0] 25)) ((HTb.out.box (by simp)).trans Xg7.out))
  have Yg8 := Lib.hid (heap_alloc_lt (o' := (.cells #[.int .i64 (12), .int .i64 (0), .int .u32 0] 25)) ((HTb.out.box (by simp)).trans Xg8.out))
  have HCn := Lib.hid ((HTb.out.cpu (by simp) HC.out).below ((Below.refl _ _).alloc (Nat.le_refl _) (.cells #[.int .i64 (12), .int .i64 (0), .int .u32 0] 25)))
  have HTn := Lib.hid (tri_box HTb.out (VmO.local _ _ _ _) Nothing.local Nothing.local (.cells #[.int .i64 (12), .int .i64 (0), .int .u32 0] 25))
  have Xn := Lib.hid (heap_new w9 (.cells #[.int .i64 (12), .int .i64 (0), .int .u32 0] 25))
  clear HTa HC Xg6 Xg7 Xg8 HTb
  generalize hW : w9.alloc (.cells #[.int .i64 (12), .int .i64 (0), .int .u32 0] 25) = w9x at *
  generalize hG : w9.heap.size = g9 at *
  clear hW hG
  have HC := Lib.hid HCn.out
  have HTa := Lib.hid HTn.out
  have Xg9 := Lib.hid Xn.out
  have Xg6 := Lib.hid Yg6.out
  have Xg7 := Lib.hid Yg7.out
  have Xg8 := Lib.hid Yg8.out
  clear HCn HTn Xn Yg6 Yg7 Yg8
  have g60 := cell_at (k := 0) Xg6.out
  have g61 := cell_at (k := 1) Xg6.out
  have g62 := cell_at (k := 2) Xg6.out
  have g6l := heap_lt Xg6.out
  have g70 := cell_at (k := 0) Xg7.out
  have g71 := cell_at (k := 1) Xg7.out
  have g72 := cell_at (k := 2) Xg7.out
  have g7l := heap_lt Xg7.out
  have g80 := cell_at (k := 0) Xg8.out
  have g81 := cell_at (k := 1) Xg8.out
  have g82 := cell_at (k := 2) Xg8.out
  have g8l := heap_lt Xg8.out
  have g90 := cell_at (k := 0) Xg9.out
  have g91 := cell_at (k := 1) Xg9.out
  have g92 := cell_at (k := 2) Xg9.out
  have g9l := heap_lt Xg9.out
  simp at g60 g61 g62 g70 g71 g72 g80 g81 g82 g90 g91 g92
  go_wp2_with fail
  go_ret
  exact ⟨rfl, HTa.out.B.alloc HTa.out.B.size _⟩
end Go.Proofs.Ytknokiadbkgmaaa

/- vmem: up to three objects, and boxes with what they hold. -/
namespace Go.Proofs.Ytknokiadbkgmaaa
open Go.RowKit Go.MapKept
set_option linter.unusedVariables false

/-- Boxes made since w, and what they hold. -/
def NB (w W : World) (L : List (Nat × Obj)) : Prop := Below w.heap.size w W ∧ ∀ p ∈ L, W.heap[p.1]? = some p.2 ∧ w.heap.size ≤ p.1
section
variable {w W W' : World} {L : List (Nat × Obj)}
theorem NB.start (w : World) : NB w w [] := ⟨Below.refl _ _, fun p h => by cases h⟩
theorem NB.below (h : NB w W L) (hb : Below W.heap.size W W') : NB w W' L :=
  ⟨step_below h.1 hb (Nat.le_refl _), fun p hp => ⟨heap_below hb (h.2 p hp).1, (h.2 p hp).2⟩⟩
theorem NB.alloc (h : NB w W L) (o : Obj) : NB w (W.alloc o) ((W.heap.size, o) :: L) := by
  refine ⟨h.1.alloc h.1.size o, fun p hp => ?_⟩
  rcases List.mem_cons.1 hp with rfl | hp
  · exact ⟨heap_new W o, h.1.size⟩
  · exact ⟨heap_alloc_lt (h.2 p hp).1, (h.2 p hp).2⟩
theorem NB.get (h : NB w W L) {g : Nat} {o : Obj} (hm : (g, o) ∈ L) : W.heap[g]? = some o := (h.2 _ hm).1
theorem NB.same (h : NB w W L) {g : Nat} {o : Obj} (hm : (g, o) ∈ L) (hk : Keeps (· = g) W W') (ho : W'.heap[g]? = some o) : NB w W' L := by
  refine ⟨Keeps.toBelow h.1 hk h.1.size (fun i e => by rw [e]; exact (h.2 _ hm).2), fun p hp => ⟨?_, (h.2 p hp).2⟩⟩
  by_cases e : p.1 = g
  · have h1 := (h.2 p hp).1
    have h2 := (h.2 _ hm).1
    rw [e, h2] at h1
    rw [e, ho]; exact h1
  · exact (hk.block p.1 (heap_lt (h.2 p hp).1) e).trans (h.2 p hp).1
/-- A box is written to. -/
theorem NB.put (h : NB w W L) {g : Nat} {o' : Obj} (hg : w.heap.size ≤ g) (hk : Keeps (· = g) W W') (ho : W'.heap[g]? = some o') {L' : List (Nat × Obj)} (hL : ∀ p ∈ L', p = (g, o') ∨ (p.1 ≠ g ∧ p ∈ L)) : NB w W' L' := by
  refine ⟨Keeps.toBelow h.1 hk h.1.size (fun i e => by rw [e]; exact hg), fun p hp => ?_⟩
  rcases hL p hp with rfl | ⟨e, hp⟩
  · exact ⟨ho, hg⟩
  · exact ⟨(hk.block p.1 (heap_lt (h.2 p hp).1) e).trans (h.2 p hp).1, (h.2 p hp).2⟩
theorem keeps_setRow (W : World) (g : Nat) (cs : Array Value) : Keeps (· = g) W (W.setRow g cs) where
  os := rfl
  tape := rfl
  output := rfl
  size := by simp
  block := fun k hk hn => setRow_other W g k cs hn
theorem NB.setRow (h : NB w W L) (cs : Array Value) {old : Array Value} {T : TypeId} {g : Nat} (hm : (g, .cells old T (0, 0)) ∈ L) {L' : List (Nat × Obj)} (hL : ∀ p ∈ L', p = (g, .cells cs T (0, 0)) ∨ (p.1 ≠ g ∧ p ∈ L)) : NB w (W.setRow g cs) L' :=
  h.put (h.2 _ hm).2 (keeps_setRow W g cs) (setRow_heap W g old cs T (0, 0) (h.get hm)) hL
end
def cpuO (C : CpuS) : Obj := .cells C.cells.toArray 38
def faultO (a b : Int) (c : Nat) : Obj := .cells #[.int .i64 a, .int .i64 b, .int .u32 (c : Nat)] 25
/-- Three objects, and boxes with what they hold. -/
def TB (w0 w : World) (PA PB PC : World → (Nat → Prop) → Prop) (L : List (Nat × Obj)) : Prop := Tri w0 w PA PB PC (fun k => ∃ o, (k, o) ∈ L) w ∧ ∀ p ∈ L, w.heap[p.1]? = some p.2
section
variable {w0 w w' wF : World} {PA PA' PB PC : World → (Nat → Prop) → Prop} {L : List (Nat × Obj)} {vb cb : Nat} {places : Pl} {n : Nat} {R R' : RS} {C : CpuS}
theorem TB.get (T : TB w0 w PA PB PC L) {g : Nat} {o : Obj} (hm : (g, o) ∈ L) : w.heap[g]? = some o := T.2 _ hm
theorem TB.after (T : TB w0 w PA PB PC L) (T' : Tri w0 w' PA' PB PC (fun k => ∃ o, (k, o) ∈ L) w) : TB w0 w' PA' PB PC L := by
  have h : ∀ p ∈ L, w'.heap[p.1]? = some p.2 := fun p hp => (T'.box ⟨p.2, hp⟩).trans (T.2 p hp)
  refine ⟨?_, h⟩
  obtain ⟨A, B, D, s, a, b, c, g⟩ := T'
  exact ⟨A, B, D, s, a, b, c, fun k hk => ⟨(g k hk).1, (g k hk).2.1, (g k hk).2.2.1, (g k hk).2.2.2.1, (g k hk).2.2.2.2.1, rfl⟩⟩
theorem TB.rot (T : TB w0 w PA PB PC L) : TB w0 w PB PC PA L := ⟨T.1.rot, T.2⟩
theorem TB.below (T : TB w0 w PA PB PC L) (LA : Local PA) (LB : Local PB) (LC : Local PC) (hb : Below w.heap.size w w') : TB w0 w' PA PB PC L := T.after (T.1.below LA LB LC hb)
theorem TB.alloc (T : TB w0 w PA PB PC L) (LA : Local PA) (LB : Local PB) (LC : Local PC) (o : Obj) : TB w0 (w.alloc o) PA PB PC ((w.heap.size, o) :: L) := by
  refine ⟨T.1.boxes LA LB LC ((Below.refl _ _).alloc (Nat.le_refl _) o) (fun k h => ?_), fun p hp => ?_⟩
  · obtain ⟨x, hx⟩ := h
    rcases List.mem_cons.1 hx with e | hx
    · have : k = w.heap.size := (Prod.mk.inj e).1
      exact .inr ⟨by omega, by simp; omega⟩
    · exact .inl ⟨x, hx⟩
  · rcases List.mem_cons.1 hp with rfl | hp
    · exact heap_new w o
    · exact heap_alloc_lt (T.2 p hp)
theorem TB.ofNB (h : NB w0 w L) : TB w0 w Nothing Nothing Nothing L :=
  ⟨⟨none_, none_, none_, ⟨fun _ h => h.elim, fun _ h => h.elim, fun _ h => h.elim, fun _ h => h.elim, fun _ h => h.elim, fun _ h => h.elim, fun _ h => h.elim, fun _ h => h.elim, fun _ h => h.elim, h.1⟩, fun _ h => h, fun _ h => h, fun _ h => h, fun k hk => by
    obtain ⟨o, ho⟩ := hk
    exact ⟨heap_lt (h.2 _ ho).1, fun h => h, fun h => h, fun h => h, (h.2 _ ho).2, rfl⟩⟩, fun p hp => (h.2 p hp).1⟩
theorem TB.both {b b' : Nat} {S S' : Nat → Prop} (T : TB w0 w Nothing PB PC L) (LB : Local PB) (LC : Local PC) (h : Two w w' b S R b' S' R) : TB w0 w' (fun w S => Ram w b S R) PB PC L := T.after (tri_more T.1 LB LC h)
theorem TB.vnew {b : Nat} (T : TB w0 w (fun w S => Ram w b S R) PB PC L) (LB : Local PB) (LC : Local PC) (hw : Wide R) (m : Nat) (hm : m ≤ 64) (x : Int) (hx : x = (m : Int)) : Calls Try.prog 12 #[.pointer (some ⟨b, 0, none⟩), .int .i64 x] w fun e w' =>
    ∃ vb, e = .returned (.tuple #[.pointer (some ⟨vb, 0, none⟩), .int .i64 0]) ∧ TB w0 w' (VmO vb ⟨m, b⟩ 0 R) PB PC L :=
  (tri_vnew T.1 LB LC hw m hm x hx).mono fun e w' ⟨vb, he, T'⟩ => ⟨vb, he, T.after T'⟩
theorem TB.cpu (T : TB w0 w PA PB PC L) (hm : (cb, cpuO C) ∈ L) (ok : C.ok) : CpuAt w cb C := CpuAt.of_block ok (T.get hm)
theorem RamP_local (b : Nat) (R : RS) : Local (fun w S => Ram w b S R) := fun w w' S h e => Ram.of_heap h e
theorem TB.load (T : TB w0 w (VmO vb places n R) PB PC L) (LB : Local PB) (LC : Local PC) (hm : (cb, cpuO C) ∈ L) (ok : C.ok) (seg : Int) (off : Nat) (size : Int) (ho : off < 4294967296) (hnb : (n + 2) * 12 ≤ 140737488355328) {v : Nat} {f : FaultS} (hr : ld R C seg off size = ((v, f), R')) :
    Calls Try.prog 13 #[.pointer (some ⟨vb, 0, none⟩), .pointer (some ⟨cb, 0, none⟩), .int .i64 seg, .int .u32 (off : Nat), .int .i64 size] w fun e w' => e = .returned (.tuple #[.int .u32 (v : Nat), .agg #[.int .i64 f.vec, .int .i64 f.cd, .int .u32 (f.cr2 : Nat)]]) ∧ TB w0 w' (VmO vb places (n + 2) R') PB PC L :=
  (tri_load T.1 LB LC ⟨_, hm⟩ (T.cpu hm ok) seg off size ho hnb hr).mono fun e w' ⟨he, T'⟩ => ⟨he, T.after T'⟩
theorem TB.store (T : TB w0 w (VmO vb places n R) PB PC L) (LB : Local PB) (LC : Local PC) (hm : (cb, cpuO C) ∈ L) (ok : C.ok) (seg : Int) (off : Nat) (size : Int) (ho : off < 4294967296) (v : Nat) (hv : v < 4294967296) (hnb : (n + 2) * 12 ≤ 140737488355328) {f : FaultS} (hr : st R C seg off size v = (f, R')) :
    Calls Try.prog 15 #[.pointer (some ⟨vb, 0, none⟩), .pointer (some ⟨cb, 0, none⟩), .int .i64 seg, .int .u32 (off : Nat), .int .i64 size, .int .u32 (v : Nat)] w fun e w' => e = .returned (.agg #[.int .i64 f.vec, .int .i64 f.cd, .int .u32 (f.cr2 : Nat)]) ∧ TB w0 w' (VmO vb places (n + 2) R') PB PC L :=
  (tri_store T.1 LB LC ⟨_, hm⟩ (T.cpu hm ok) seg off size ho v hv hnb hr).mono fun e w' ⟨he, T'⟩ => ⟨he, T.after T'⟩
theorem TB.check (T : TB w0 w (VmO vb places n R) PB PC L) (LB : Local PB) (LC : Local PC) (hm : (cb, cpuO C) ∈ L) (ok : C.ok) (seg : Int) (off : Nat) (size : Int) (ho : off < 4294967296) (hnb : (n + 2) * 12 ≤ 140737488355328) {f : FaultS} (hr : ck R C seg off size = (f, R')) :
    Calls Try.prog 18 #[.pointer (some ⟨vb, 0, none⟩), .pointer (some ⟨cb, 0, none⟩), .int .i64 seg, .int .u32 (off : Nat), .int .i64 size] w fun e w' => e = .returned (.agg #[.int .i64 f.vec, .int .i64 f.cd, .int .u32 (f.cr2 : Nat)]) ∧ TB w0 w' (VmO vb places (n + 2) R') PB PC L :=
  (tri_check T.1 LB LC ⟨_, hm⟩ (T.cpu hm ok) seg off size ho hnb hr).mono fun e w' ⟨he, T'⟩ => ⟨he, T.after T'⟩
theorem TB.sys (T : TB w0 w (VmO vb places n R) PB PC L) (LB : Local PB) (LC : Local PC) (hm : (cb, cpuO C) ∈ L) (ok : C.ok) (lin : Nat) (size : Int) (hl : lin < 4294967296) (hnb : (n + 2) * 12 ≤ 140737488355328) {v : Nat} {f : FaultS} (hr : ldOf (sy R C lin size false) = ((v, f), R')) :
    Calls Try.prog 17 #[.pointer (some ⟨vb, 0, none⟩), .pointer (some ⟨cb, 0, none⟩), .int .u32 (lin : Nat), .int .i64 size] w fun e w' => e = .returned (.tuple #[.int .u32 (v : Nat), .agg #[.int .i64 f.vec, .int .i64 f.cd, .int .u32 (f.cr2 : Nat)]]) ∧ TB w0 w' (VmO vb places (n + 2) R') PB PC L :=
  (tri_sys T.1 LB LC ⟨_, hm⟩ (T.cpu hm ok) lin size hl hnb hr).mono fun e w' ⟨he, T'⟩ => ⟨he, T.after T'⟩
theorem TB.setsys (T : TB w0 w (VmO vb places n R) PB PC L) (LB : Local PB) (LC : Local PC) (hm : (cb, cpuO C) ∈ L) (ok : C.ok) (lin : Nat) (size : Int) (hl : lin < 4294967296) (v : Nat) (hv : v < 4294967296) (hnb : (n + 2) * 12 ≤ 140737488355328) {f : FaultS} (hr : stOf v (sy R C lin size true) = (f, R')) :
    Calls Try.prog 16 #[.pointer (some ⟨vb, 0, none⟩), .pointer (some ⟨cb, 0, none⟩), .int .u32 (lin : Nat), .int .i64 size, .int .u32 (v : Nat)] w fun e w' => e = .returned (.agg #[.int .i64 f.vec, .int .i64 f.cd, .int .u32 (f.cr2 : Nat)]) ∧ TB w0 w' (VmO vb places (n + 2) R') PB PC L :=
  (tri_setsys T.1 LB LC ⟨_, hm⟩ (T.cpu hm ok) lin size hl v hv hnb hr).mono fun e w' ⟨he, T'⟩ => ⟨he, T.after T'⟩
theorem TB.code (T : TB w0 w (VmO vb places n R) PB PC L) (LB : Local PB) (LC : Local PC) (hm : (cb, cpuO C) ∈ L) (ok : C.ok) (off : Nat) (ho : off < 4294967296) (hnb : (n + 2) * 12 ≤ 140737488355328) {v a : Nat} {f : FaultS} (hr : cdr R C off = ((v, a, f), R')) :
    Calls Try.prog 14 #[.pointer (some ⟨vb, 0, none⟩), .pointer (some ⟨cb, 0, none⟩), .int .u32 (off : Nat)] w fun e w' => e = .returned (.tuple #[.int .u8 (v : Nat), .int .u32 (a : Nat), .agg #[.int .i64 f.vec, .int .i64 f.cd, .int .u32 (f.cr2 : Nat)]]) ∧ TB w0 w' (VmO vb places (n + 2) R') PB PC L :=
  (tri_code T.1 LB LC ⟨_, hm⟩ (T.cpu hm ok) off ho hnb hr).mono fun e w' ⟨he, T'⟩ => ⟨he, T.after T'⟩
end
end Go.Proofs.Ytknokiadbkgmaaa
