/- vmem: calls on none, or of no processor. -/
import Derived.Test.YtknokiadbkgmaaaVmIO
import Derived.Test.YtknokiadbkgmaaaKp
namespace Go.Proofs.Ytknokiadbkgmaaa
open Go.RowKit Go.MapKept
set_option linter.unusedVariables false
set_option linter.unusedSimpArgs false
attribute [local go_sem ↓] Go.wp_at_zero Go.wp_at_succ

/-- The fault's block, and nothing else. -/
structure DoorN (w w1 : World) (g : Nat) (f : FaultS) : Prop where
  b : Below w.heap.size w w1
  new : w.heap.size ≤ g
  box : w1.heap[g]? = some (.cells f.cells 25)
section
variable {w w1 w' w2 : World} {g : Nat} {f f' : FaultS}
theorem DoorN.keeps (h : DoorN w w1 g f) (hk : Keeps (· = g) w1 w') (hf : w'.heap[g]? = some (.cells f'.cells 25)) : DoorN w w' g f' :=
  ⟨Keeps.toBelow h.b hk h.b.size (fun i e => by rw [e]; exact h.new), h.new, hf⟩
theorem DoorN.below (h : DoorN w w1 g f) (hb : Below w1.heap.size w1 w') : DoorN w w' g f := h.keeps (Keeps.ofBelow hb) (heap_below hb h.box)
theorem DoorN.start (w : World) : DoorN w (w.alloc (.cells #[.int .i64 0, .int .i64 0, .int .u32 0] 25)) w.heap.size ⟨0, 0, 0⟩ :=
  ⟨(Below.refl _ _).alloc (Nat.le_refl _) _, Nat.le_refl _, heap_new w _⟩
theorem DoorN.set (h : DoorN w w1 g f) (f' : FaultS) : DoorN w (sets3 w1 g (.int .i64 f'.vec) (.int .i64 f'.cd) (.int .u32 (f'.cr2 : Nat))) g f' :=
  h.keeps (keeps_sets3 _ _ _ _ _) (block_sets3 h.box _ _ _)
theorem DoorN.facts (h : DoorN w w1 g f) : w1.cell? ⟨g, 0, none⟩ = some (.int .i64 f.vec) ∧ w1.cell? ⟨g, 1, none⟩ = some (.int .i64 f.cd) ∧ w1.cell? ⟨g, 2, none⟩ = some (.int .u32 (f.cr2 : Nat)) ∧ (∀ k, w1.frozen? ⟨g, k, none⟩ = false) ∧ g < w1.heap.size :=
  ⟨by rw [cell_at h.box]; rfl, by rw [cell_at h.box]; rfl, by rw [cell_at h.box]; rfl, fun k => free_at h.box, heap_lt h.box⟩
theorem DoorN.gave (h : DoorN w w1 g f) (f' : FaultS) {fn : Func} {tmps : Array Value} {v : Value} {post : Ending → World → Prop} (hres : ∀ w5 : World, w5.heap[g]? = some (.cells f'.cells 25) → (results fn tmps).run Try.prog w5 = .ok v w5) (hpost : ∀ w5, DoorN w w5 g f' → post (.returned v) w5) :
    bodyPostD Try.prog fn post (Exit.panic [{ v := faultV f'.vec f'.cd f'.cr2, recovered := false }]) ⟨tmps, [{ target := .fn (.func 31) #[], args := #[.pointer (some ⟨g, 0, none⟩)] }]⟩ w1 := by
  refine leaves_cons (f := 31) (args := #[.pointer (some ⟨g, 0, none⟩)]) (by simp) (by simp [go_sem]) ?_
  refine (caught_panic g _ _ _ f'.vec f'.cd f'.cr2 [] _ h.box).mono ?_
  rintro e u' w5 ⟨rfl, rfl, hf, hk⟩
  have D := h.keeps hk hf
  exact ⟨v, hres _ D.box, hpost _ D⟩
/-- The size is refused. -/
def Gives (m c : Value) (s : Int) : Prop := ∀ W : World, Calls Try.prog 34 #[m, c, .int .i64 s] W fun e w' => e = gaveUp 13 0 0 ∧ W = w'
theorem gives_nil (c : Value) (s : Int) : Gives (.pointer none) c s := fun W => sized_nil c s W
theorem gives_nilc (a : Addr) (s : Int) : Gives (.pointer (some a)) (.pointer none) s := fun W => sized_nilc a s W
theorem segment_z (m c : Value) (seg : Int) (off : Nat) (size : Int) (wr : Bool) (h : Gives m c size) (w : World) :
    Calls Try.prog 33 #[m, c, .int .i64 seg, .int .u32 (off : Nat), .int .i64 size, .bool wr] w fun e w' => e = .panicked [{ v := faultV 13 0 0, recovered := false }] ∧ Below w.heap.size w w' := by
  have H := Lib.hid h
  clear h
  go_enter Try.func33, Try.ntmps33
  go_wp2_with (go_at_call 34; refine (H.out _).mono ?_; rintro e w' ⟨he, rfl⟩; unfold gaveUp faultV at he; subst he)
  exact ⟨rfl, rfl, (Below.refl _ _).alloc (Nat.le_refl _) _⟩
set_option maxRecDepth 20000 in
set_option maxHeartbeats 2000000 in
theorem check_z (m c : Value) (seg : Int) (off : Nat) (size : Int) (h : Gives m c size) (w : World) :
    Calls Try.prog 18 #[m, c, .int .i64 seg, .int .u32 (off : Nat), .int .i64 size] w fun e w' => e = .returned (.agg #[.int .i64 13, .int .i64 0, .int .u32 0]) ∧ Below w.heap.size w w' := by
  have H := Lib.hid h
  clear h
  go_enter_defers Try.func18, Try.ntmps18
  go_wp2_with fail
  refine (none_any _).mono ?_
  rintro e w1 ⟨rfl, hb1⟩
  have D1 := (DoorN.start w).below hb1
  have D2 := Lib.hid (D1.set noF)
  obtain ⟨c0, c1, c2, cf, cl⟩ := D1.facts
  clear hb1 D1
  go_upto_region 2 with (fail)
  change Code.wp _ _ _ _ (sets3 w1 w.heap.size (.int .i64 noF.vec) (.int .i64 noF.cd) (.int .u32 (noF.cr2 : Nat)))
  clear c0 c1 c2 cf cl
  generalize sets3 w1 w.heap.size (.int .i64 noF.vec) (.int .i64 noF.cd) (.int .u32 (noF.cr2 : Nat)) = w2 at *
  generalize hG : w.heap.size = g at *
  have HG := Lib.hid hG
  clear hG
  go_wp2_with fail
  refine (segment_z m c seg off size true H.out w2).mono ?_
  rintro e w3 ⟨rfl, hb3⟩
  exact (D2.out.below hb3).gave ⟨13, 0, 0⟩ (fres rfl rfl) (fun w5 D => ⟨rfl, D.b⟩)
set_option maxRecDepth 20000 in
set_option maxHeartbeats 2000000 in
theorem store_z (m c : Value) (seg : Int) (off : Nat) (size : Int) (v : Nat) (h : Gives m c size) (w : World) :
    Calls Try.prog 15 #[m, c, .int .i64 seg, .int .u32 (off : Nat), .int .i64 size, .int .u32 (v : Nat)] w fun e w' => e = .returned (.agg #[.int .i64 13, .int .i64 0, .int .u32 0]) ∧ Below w.heap.size w w' := by
  have H := Lib.hid h
  clear h
  go_enter_defers Try.func15, Try.ntmps15
  go_wp2_with fail
  refine (none_any _).mono ?_
  rintro e w1 ⟨rfl, hb1⟩
  have D1 := (DoorN.start w).below hb1
  have D2 := Lib.hid (D1.set noF)
  obtain ⟨c0, c1, c2, cf, cl⟩ := D1.facts
  clear hb1 D1
  go_upto_region 2 with (fail)
  change Code.wp _ _ _ _ (sets3 w1 w.heap.size (.int .i64 noF.vec) (.int .i64 noF.cd) (.int .u32 (noF.cr2 : Nat)))
  clear c0 c1 c2 cf cl
  generalize sets3 w1 w.heap.size (.int .i64 noF.vec) (.int .i64 noF.cd) (.int .u32 (noF.cr2 : Nat)) = w2 at *
  generalize hG : w.heap.size = g at *
  have HG := Lib.hid hG
  clear hG
  go_wp2_with fail
  refine (segment_z m c seg off size true H.out w2).mono ?_
  rintro e w3 ⟨rfl, hb3⟩
  exact (D2.out.below hb3).gave ⟨13, 0, 0⟩ (fres rfl rfl) (fun w5 D => ⟨rfl, D.b⟩)
set_option maxRecDepth 20000 in
set_option maxHeartbeats 2000000 in
theorem setsys_z (m c : Value) (lin : Nat) (size : Int) (v : Nat) (h : Gives m c size) (w : World) :
    Calls Try.prog 16 #[m, c, .int .u32 (lin : Nat), .int .i64 size, .int .u32 (v : Nat)] w fun e w' => e = .returned (.agg #[.int .i64 13, .int .i64 0, .int .u32 0]) ∧ Below w.heap.size w w' := by
  have H := Lib.hid h
  clear h
  go_enter_defers Try.func16, Try.ntmps16
  go_wp2_with fail
  refine (none_any _).mono ?_
  rintro e w1 ⟨rfl, hb1⟩
  have D1 := (DoorN.start w).below hb1
  have D2 := Lib.hid (D1.set noF)
  obtain ⟨c0, c1, c2, cf, cl⟩ := D1.facts
  clear hb1 D1
  go_upto_region 2 with (fail)
  change Code.wp _ _ _ _ (sets3 w1 w.heap.size (.int .i64 noF.vec) (.int .i64 noF.cd) (.int .u32 (noF.cr2 : Nat)))
  clear c0 c1 c2 cf cl
  generalize sets3 w1 w.heap.size (.int .i64 noF.vec) (.int .i64 noF.cd) (.int .u32 (noF.cr2 : Nat)) = w2 at *
  generalize hG : w.heap.size = g at *
  have HG := Lib.hid hG
  clear hG
  go_wp2_with fail
  refine (H.out w2).mono ?_
  rintro e w3 ⟨rfl, rfl⟩
  exact (D2.out).gave ⟨13, 0, 0⟩ (fres rfl rfl) (fun w5 D => ⟨rfl, D.b⟩)
set_option maxRecDepth 20000 in
set_option maxHeartbeats 2000000 in
theorem sys_z (m c : Value) (lin : Nat) (size : Int) (h : Gives m c size) (w : World) :
    Calls Try.prog 17 #[m, c, .int .u32 (lin : Nat), .int .i64 size] w fun e w' => e = .returned (.tuple #[.int .u32 0, .agg #[.int .i64 13, .int .i64 0, .int .u32 0]]) ∧ Below w.heap.size w w' := by
  have H := Lib.hid h
  clear h
  go_enter_defers Try.func17, Try.ntmps17
  go_wp2_with fail
  refine (none_any _).mono ?_
  rintro e w1 ⟨rfl, hb1⟩
  have D1 := (DoorN.start w).below hb1
  have D2 := Lib.hid (D1.set noF)
  obtain ⟨c0, c1, c2, cf, cl⟩ := D1.facts
  clear hb1 D1
  go_upto_region 3 with (fail)
  change Code.wp _ _ _ _ (sets3 w1 w.heap.size (.int .i64 noF.vec) (.int .i64 noF.cd) (.int .u32 (noF.cr2 : Nat)))
  clear c0 c1 c2 cf cl
  generalize sets3 w1 w.heap.size (.int .i64 noF.vec) (.int .i64 noF.cd) (.int .u32 (noF.cr2 : Nat)) = w2 at *
  generalize hG : w.heap.size = g at *
  have HG := Lib.hid hG
  clear hG
  go_wp2_with fail
  refine (H.out w2).mono ?_
  rintro e w3 ⟨rfl, rfl⟩
  exact (D2.out).gave ⟨13, 0, 0⟩ (vres rfl rfl rfl) (fun w5 D => ⟨rfl, D.b⟩)
set_option maxRecDepth 20000 in
set_option maxHeartbeats 2000000 in
theorem code_z (m c : Value) (off : Nat) (h : Gives m c 1) (w : World) :
    Calls Try.prog 14 #[m, c, .int .u32 (off : Nat)] w fun e w' => e = .returned (.tuple #[.int .u8 0, .int .u32 0, .agg #[.int .i64 13, .int .i64 0, .int .u32 0]]) ∧ Below w.heap.size w w' := by
  have H := Lib.hid h
  clear h
  go_enter_defers Try.func14, Try.ntmps14
  go_wp2_with fail
  refine (none_any _).mono ?_
  rintro e w1 ⟨rfl, hb1⟩
  have D1 := (DoorN.start w).below hb1
  have D2 := Lib.hid (D1.set noF)
  obtain ⟨c0, c1, c2, cf, cl⟩ := D1.facts
  clear hb1 D1
  go_upto_region 3 with (fail)
  change Code.wp _ _ _ _ (sets3 w1 w.heap.size (.int .i64 noF.vec) (.int .i64 noF.cd) (.int .u32 (noF.cr2 : Nat)))
  clear c0 c1 c2 cf cl
  generalize sets3 w1 w.heap.size (.int .i64 noF.vec) (.int .i64 noF.cd) (.int .u32 (noF.cr2 : Nat)) = w2 at *
  generalize hG : w.heap.size = g at *
  have HG := Lib.hid hG
  clear hG
  go_wp2_with fail
  refine (H.out w2).mono ?_
  rintro e w3 ⟨rfl, rfl⟩
  exact (D2.out).gave ⟨13, 0, 0⟩ (cres rfl rfl rfl rfl) (fun w5 D => ⟨rfl, D.b⟩)
set_option maxRecDepth 20000 in
set_option maxHeartbeats 2000000 in
theorem load_z (m c : Value) (seg : Int) (off : Nat) (size : Int) (h : Gives m c size) (w : World) :
    Calls Try.prog 13 #[m, c, .int .i64 seg, .int .u32 (off : Nat), .int .i64 size] w fun e w' => e = .returned (.tuple #[.int .u32 0, .agg #[.int .i64 13, .int .i64 0, .int .u32 0]]) ∧ Below w.heap.size w w' := by
  have H := Lib.hid h
  clear h
  go_enter_defers Try.func13, Try.ntmps13
  go_wp2_with fail
  refine (none_any _).mono ?_
  rintro e w1 ⟨rfl, hb1⟩
  have D1 := (DoorN.start w).below hb1
  have D2 := Lib.hid (D1.set noF)
  obtain ⟨c0, c1, c2, cf, cl⟩ := D1.facts
  clear hb1 D1
  go_upto_region 3 with (fail)
  change Code.wp _ _ _ _ (sets3 w1 w.heap.size (.int .i64 noF.vec) (.int .i64 noF.cd) (.int .u32 (noF.cr2 : Nat)))
  clear c0 c1 c2 cf cl
  generalize sets3 w1 w.heap.size (.int .i64 noF.vec) (.int .i64 noF.cd) (.int .u32 (noF.cr2 : Nat)) = w2 at *
  generalize hG : w.heap.size = g at *
  have HG := Lib.hid hG
  clear hG
  have D3 := D2.out.below (Below.refl _ _).drew
  have HD := Lib.hid D3
  obtain ⟨c0, c1, c2, -, -⟩ := D3.facts
  clear D3
  refine wp_region_held_drew (S := fun w' => w'.cell? ⟨g, 0, none⟩ = some (.int .i64 noF.vec) ∧ w'.cell? ⟨g, 1, none⟩ = some (.int .i64 noF.cd) ∧ w'.cell? ⟨g, 2, none⟩ = some (.int .u32 (noF.cr2 : Nat))) (by kernel_rfl) ⟨c0, c1, c2⟩ (fun hHeld => ?_)
  clear c0 c1 c2
  refine wpAnyH_take (i := 0) (oi := _) (v := ?_) rfl (by kernel_rfl) (by kernel_rfl) (by kernel_rfl) (panicD_put rfl (by decide) (by decide) _) (Or.inl ⟨by rfl, ?_⟩) (by assumption) ?_
  rotate_left
  · (intro w hSw; (try dsimp only at hSw); go_simp <;> rfl)
  simp only [Act.put, List.getElem_toArray, List.getElem_cons_zero, List.getElem_cons_succ, List.setIfInBounds_toArray, List.set_cons_zero, List.set_cons_succ]
  refine wpAnyH_take (i := 1) (oi := _) (v := ?_) rfl (by kernel_rfl) (by kernel_rfl) (by kernel_rfl) (panicD_put rfl (by decide) (by decide) _) (Or.inl ⟨by rfl, ?_⟩) (by assumption) ?_
  rotate_left
  · (intro w hSw; (try dsimp only at hSw); go_simp <;> rfl)
  simp only [Act.put, List.getElem_toArray, List.getElem_cons_zero, List.getElem_cons_succ, List.setIfInBounds_toArray, List.set_cons_zero, List.set_cons_succ]
  refine wpAnyH_take (i := 2) (oi := _) (v := ?_) rfl (by kernel_rfl) (by kernel_rfl) (by kernel_rfl) (panicD_put rfl (by decide) (by decide) _) (Or.inl ⟨by rfl, ?_⟩) (by assumption) ?_
  rotate_left
  · (intro w hSw; (try dsimp only at hSw); go_simp <;> rfl)
  simp only [Act.put, List.getElem_toArray, List.getElem_cons_zero, List.getElem_cons_succ, List.setIfInBounds_toArray, List.set_cons_zero, List.set_cons_succ]
  refine wpAnyH_take (i := 3) (oi := _) (v := ?_) rfl (by kernel_rfl) (by kernel_rfl) (by kernel_rfl) (panicD_put rfl (by decide) (by decide) _) (Or.inl ⟨by rfl, ?_⟩) (by assumption) ?_
  rotate_left
  · (intro w hSw; (try dsimp only at hSw); go_simp <;> rfl)
  simp only [Act.put, List.getElem_toArray, List.getElem_cons_zero, List.getElem_cons_succ, List.setIfInBounds_toArray, List.set_cons_zero, List.set_cons_succ]
  refine wpAnyH_take (i := 4) (oi := _) (v := ?_) rfl (by kernel_rfl) (by kernel_rfl) (by kernel_rfl) (panicD_put rfl (by decide) (by decide) _) (Or.inl ⟨by rfl, ?_⟩) (by assumption) ?_
  rotate_left
  · (intro w hSw; (try dsimp only at hSw); go_simp <;> rfl)
  simp only [Act.put, List.getElem_toArray, List.getElem_cons_zero, List.getElem_cons_succ, List.setIfInBounds_toArray, List.set_cons_zero, List.set_cons_succ]
  refine wpAnyH_take (i := 5) (oi := _) (v := ?_) rfl (by kernel_rfl) (by kernel_rfl) (by kernel_rfl) (panicD_put rfl (by decide) (by decide) _) (Or.inl ⟨by rfl, ?_⟩) (by assumption) ?_
  rotate_left
  · (intro w hSw; (try dsimp only at hSw); go_simp <;> rfl)
  simp only [Act.put, List.getElem_toArray, List.getElem_cons_zero, List.getElem_cons_succ, List.setIfInBounds_toArray, List.set_cons_zero, List.set_cons_succ]
  refine wpAnyH_take (i := 8) (oi := _) (v := ?_) rfl (by kernel_rfl) (by kernel_rfl) (by kernel_rfl) (panicD_put rfl (by decide) (by decide) _) (Or.inl ⟨by rfl, ?_⟩) (by assumption) ?_
  rotate_left
  · (intro w hSw; (try dsimp only at hSw); go_simp <;> rfl)
  simp only [Act.put, List.getElem_toArray, List.getElem_cons_zero, List.getElem_cons_succ, List.setIfInBounds_toArray, List.set_cons_zero, List.set_cons_succ]
  refine wpAnyH_ready (rs := [6]) (by kernel_rfl) (by simp) (AllReadyH.cons (i := 6) (o := _) rfl (fun K1 hK1 => ?_) AllReadyH.nil)
  simp only [List.getElem_toArray, List.getElem_cons_zero, List.getElem_cons_succ]
  go_simp
  refine (segment_z m c seg off size false H.out _).mono ?_
  rintro e w3 ⟨rfl, hb3⟩
  exact (HD.out.below hb3).gave ⟨13, 0, 0⟩ (vres rfl rfl rfl) (fun w5 D => ⟨rfl, D.b⟩)
theorem vflush_nil (w : World) : Calls Try.prog 21 #[.pointer none] w fun e w' => e = .returned (.tuple #[]) ∧ w = w' := by
  go_enter Try.func21, Try.ntmps21
  go_wp2_with fail
  go_end0
  exact ⟨rfl, rfl⟩
theorem vdrop_nil (w : World) (x : Int) : Calls Try.prog 22 #[.pointer none, .int .u32 x] w fun e w' => e = .returned (.tuple #[]) ∧ w = w' := by
  go_enter Try.func22, Try.ntmps22
  go_wp2_with fail
  go_end0
  exact ⟨rfl, rfl⟩
theorem vram_nil (w : World) : Calls Try.prog 23 #[.pointer none] w fun e w' => e = .returned (.pointer none) ∧ w = w' := by
  go_enter Try.func23, Try.ntmps23
  go_wp2_with fail
  go_ret
  exact ⟨rfl, rfl⟩
theorem vnew_nil (w : World) (x : Int) : Calls Try.prog 12 #[.pointer none, .int .i64 x] w fun e w' => e = .returned (.tuple #[.pointer none, .int .i64 1]) ∧ w = w' := by
  go_enter Try.func12, Try.ntmps12
  go_wp2_with fail
  refine (tnew_nil _ _).mono ?_
  rintro e w1 ⟨rfl, rfl⟩
  go_wp2_with fail
  go_ret2
  exact ⟨rfl, rfl⟩
theorem vnew_any {b : Nat} {S : Nat → Prop} {R : RS} (h : Ram w b S R) (hw : Wide R) (m : Nat) (hm : m ≤ 64) (x : Int) (hx : x = (m : Int)) : Calls Try.prog 12 #[.pointer (some ⟨b, 0, none⟩), .int .i64 x] w fun e w' =>
    ∃ vb H, e = .returned (.tuple #[.pointer (some ⟨vb, 0, none⟩), .int .i64 0]) ∧ Vm w' vb m 0 H R ∧ Moves S H w w' := by
  have HN := Lib.hid (tl_new h hw m hm x hx)
  clear h hx hw hm
  go_enter Try.func12, Try.ntmps12
  go_wp2_with fail
  refine HN.out.mono ?_
  rintro e w1 ⟨tb, H, rfl, hT, hM, -⟩
  have HT := Lib.hid (And.intro hT hM)
  clear hT hM
  go_wp2_with fail
  go_ret2
  obtain ⟨hT, hM⟩ := HT.out
  have hK : Kq w1 tb b m 0 H R := by
    obtain ⟨mb, S', ov, all, order, T, hl, hH⟩ := hT
    exact ⟨mb, S', ov, 0, all, order, T, hl, hH⟩
  refine ⟨w1.heap.size, fun k => k = w1.heap.size ∨ H k, rfl, ⟨tb, b, H, heap_new w1 _, hK.of_heap fun k hk => Below.heap_alloc _ _ _ (hK.lt k hk), fun h => by have := hK.lt _ h; omega, fun k => Iff.rfl⟩, ?_⟩
  have hM2 : Moves S H w (w1.alloc (.cells #[.pointer (some ⟨b, 0, none⟩), .pointer (some ⟨tb, 0, none⟩)] 83)) := hM.below ((Below.refl _ _).alloc (Nat.le_refl _) _)
  refine ⟨hM2.1, fun k hk => ?_⟩
  rcases hk with rfl | hk
  · exact .inr hM.1.size
  · exact hM.2 k hk
theorem vram_any {vb places n : Nat} {H : Nat → Prop} {R : RS} (h : Vm w vb places n H R) : Calls Try.prog 23 #[.pointer (some ⟨vb, 0, none⟩)] w fun e w' => (∃ rb S, e = .returned (.pointer (some ⟨rb, 0, none⟩)) ∧ Ram w rb S R) ∧ w = w' := by
  obtain ⟨tb, rb, G, ho, hK, _, _⟩ := h
  obtain ⟨S, hR, _⟩ := hK.ram
  have HR := Lib.hid hR
  have c0 := cell_at (k := 0) ho
  have cl := heap_lt ho
  simp at c0
  clear ho hK hR
  go_enter Try.func23, Try.ntmps23
  go_wp2_with fail
  go_ret
  exact ⟨⟨rb, S, rfl, HR.out⟩, rfl⟩
end
end Go.Proofs.Ytknokiadbkgmaaa
