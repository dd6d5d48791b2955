/- 'drawloom/drawloomlaw18.ExceptNil' answers true for every input. Conditions: none. -/
import Derived.Test.YtmpcafdgkbpneaaGreatS0
import Derived.Test.YtmpcafdgkbpneaaGreatS40
import Derived.Test.YtmpcafdgkbpneaaGreatS26
import Derived.Test.YtmpcafdgkbpneaaGreatVmIn
open List renaming getElem_toArray → lz0, getElem_cons_zero → lz1, getElem_cons_succ → lz2, setIfInBounds_toArray → lz3, set_cons_zero → lz4, set_cons_succ → lz5
namespace Go.Proofs.YtmpcafdgkbpneaaGreat.exceptNil
open Go.ChangeShapes Go.WideShapes Go.ChangeAt Go.RowKit
set_option linter.unusedVariables false

open Go.MapKept
set_option linter.unusedSimpArgs false
attribute [local go_sem ↓] Go.wp_at_zero Go.wp_at_succ
def opC (k v c : Int) (s : Bool) (x : Int) : Obj := .cells #[.int .i64 k, .int .i64 v, .int .i64 c, .bool s, .int .u32 x] 57
def badC : Obj := .cells #[.int .i64 13, .int .i64 0, .int .u32 0] 42
theorem built_cpu (C : CpuS) : Tryz.prog.built 40 [(0, .agg C.cells.toArray)] = some (C.cells ++ [Value.pointer none, Value.pointer none]).toArray := by kernel_rfl
theorem wpList_build_ps {ops : Array Oper} {rest : List Oper} {o : Oper} {a : Act} {w : World} {Q : Exit → Act → World → Prop} (hg : o.guard = none) (t : TypeId) (parts : Array (Nat × Operand)) (ho : o.op = .build t parts) (cells : Array Value) (ps : List (Nat × Value))
    (hp : (parts.map fun (i, x) => (i, a.eval x)).toList = ps) (hc : Tryz.prog.built t ps = some cells) (h : wpList Tryz.prog ops Q rest (a.put o.dst (.agg cells)) w) : wpList Tryz.prog ops Q (o :: rest) a w := by
  subst hp
  exact wpList_build hg t parts ho (by rw [hc]; rfl) (by rw [hc]; exact h)
theorem left_range {w : World} {b : Nat} {cL r : List Value} {t : TypeId} (h : w.heap[b]? = some (.cells (cL ++ r).toArray t)) : w.rangeAt b 0 cL := fun j v hv => by
  rw [Nat.zero_add, cell_at h, List.getElem?_toArray, List.getElem?_append_left (List.getElem?_eq_some_iff.1 hv).1, hv]
theorem bare_cell {w : World} {b : Nat} {cL : List Value} (hl : cL.length = 83) (h : w.heap[b]? = some (.cells (cL ++ [Value.pointer none, Value.pointer none]).toArray 40)) : w.cell? ⟨b, 83, none⟩ = some (.pointer none) := by
  rw [cell_at h, List.getElem?_toArray, List.getElem?_append_right (by omega), hl]; rfl
set_option maxRecDepth 100000 in
theorem open_op {w : World} {r0 : Reach} {base : Nat} {v : Value} (h : Value.okWide Tryz.prog w r0 base 57 v) :
    ∃ (k a c : Int) (s : Bool) (x : Int), v = .agg #[.int .i64 k, .int .i64 a, .int .i64 c, .bool s, .int .u32 x] := by
  obtain ⟨cs, rfl, hlen, hc⟩ := arg_agg (ts := [3, 3, 3, 4, 22]) Tryz.underlying57 (by kernel_rfl) (by kernel_rfl) h
  match cs, hlen, hc with
  | [c0, c1, c2, c3, c4], _, hc =>
    obtain ⟨k, rfl, _, _⟩ := cell_int Tryz.underlying3 (hc 0 c0 3 rfl rfl)
    obtain ⟨a, rfl, _, _⟩ := cell_int Tryz.underlying3 (hc 1 c1 3 rfl rfl)
    obtain ⟨c, rfl, _, _⟩ := cell_int Tryz.underlying3 (hc 2 c2 3 rfl rfl)
    obtain ⟨s, rfl⟩ := cell_bool Tryz.underlying4 (hc 3 c3 4 rfl rfl)
    obtain ⟨x, rfl, _, _⟩ := cell_int Tryz.underlying22 (hc 4 c4 22 rfl rfl)
    exact ⟨k, a, c, s, x, rfl⟩
set_option maxRecDepth 100000 in
set_option maxHeartbeats 8000000 in
theorem walk (C : CpuS) (k v c : Int) (s : Bool) (x : Int) (w : World) :
    Calls Tryz.prog 7 #[.agg C.cells.toArray, .agg #[.int .i64 k, .int .i64 v, .int .i64 c, .bool s, .int .u32 x]] w fun e w' => e = .returned (.bool true) ∧ Below w.heap.size w w' := by
  have hlen : (Tryz.prog.info? 36).map (·.size) = some C.cells.length := by rw [C.cells_len]; exact info83
  have HB := built_cpu C
  have hc83 := C.cells_len
  have HE := eq_cpu C
  generalize C.cells = cL at *
  have HX := Lib.hid (And.intro hlen (And.intro hc83 (And.intro HB HE)))
  clear hlen hc83 HB HE
  go_enter Tryz.func7, Tryz.ntmps7
  go_upto_region 1 with (fail)
  have HT0 := Lib.hid (show Hp w (fun _ => False) ((w.alloc (.cells cL.toArray 36)).alloc (opC k v c s x)) [Ob.box w.heap.size (.cells cL.toArray 36), Ob.box (w.alloc (.cells cL.toArray 36)).heap.size (opC k v c s x)] from ((Hp.zero w).make _).make _)
  rw [World.size_alloc] at HT0
  change Code.wp _ _ _ _ ((w.alloc (.cells cL.toArray 36)).alloc (opC k v c s x))
  generalize (w.alloc (.cells cL.toArray 36)).alloc (opC k v c s x) = w1 at *
  obtain ⟨ob, hob⟩ : ∃ ob, ob = w.heap.size + 1 := ⟨_, rfl⟩
  rw [← hob] at HT0 ⊢
  clear hob
  obtain ⟨cb, hcb⟩ : ∃ cb, cb = w.heap.size := ⟨_, rfl⟩
  rw [← hcb] at HT0 ⊢
  clear hcb
  go_wp2_with fail
  refine (awake18 _).mono ?_
  rintro e w2 ⟨rfl, hb⟩
  have HT1 := Lib.hid (HT0.out.grow hb)
  clear HT0 hb
  have HT2 := Lib.hid (show Hp w (fun _ => False) (w2.alloc badC) [Ob.box cb (.cells cL.toArray 36), Ob.box ob (opC k v c s x), Ob.box w2.heap.size badC] from HT1.out.make _)
  go_upto_region 5 with (fail)
  change Code.wp _ _ _ _ (w2.alloc badC)
  generalize w2.alloc badC = w3 at *
  generalize w2.heap.size = fb at *
  clear HT1
  have q0 := (box_cells HT2.out (i := 1) rfl).1 1
  have ql := (box_cells HT2.out (i := 1) rfl).2.2
  simp at q0
  go_wp2_with fail
  refine (fault_none ⟨v, 0, 0⟩ _).mono ?_
  rintro e w4 ⟨rfl, hb⟩
  have HT3 := Lib.hid (HT2.out.grow hb)
  clear hb HT2 q0 ql
  have HR := Lib.hid (box_range (i := 0) HT3.out rfl)
  have HT4 := Lib.hid (show Hp w (fun _ => False) (w4.alloc (.cells (cL ++ [Value.pointer none, Value.pointer none]).toArray 40)) [Ob.box cb (.cells cL.toArray 36), Ob.box ob (opC k v c s x), Ob.box fb badC, Ob.box w4.heap.size (.cells (cL ++ [Value.pointer none, Value.pointer none]).toArray 40)] from HT3.out.make _)
  obtain ⟨eL, heL⟩ : ∃ eL, eL = (cL ++ [Value.pointer none, Value.pointer none]).toArray := ⟨_, rfl⟩
  have HB := Lib.hid HX.out.2.2.1
  rw [← heL] at HB
  go_upto_region 7 with (first | (refine wpList_load_mid rfl _ _ rfl cb 0 rfl cL _ HR.out Tryz.underlying36 rfl HX.out.1 ?_) | (refine wpList_build_ps rfl _ _ rfl eL _ (by kernel_rfl) HB.out ?_))
  change Code.wp _ _ _ _ (w4.alloc (.cells (cL ++ [Value.pointer none, Value.pointer none]).toArray 40))
  clear HB heL eL
  generalize w4.alloc (.cells (cL ++ [Value.pointer none, Value.pointer none]).toArray 40) = w5 at *
  generalize w4.heap.size = eb at *
  clear HT3 HR
  have q0 := (box_cells HT4.out (i := 1) rfl).1 1
  have ql := (box_cells HT4.out (i := 1) rfl).2.2
  simp at q0
  have he := bare_cell HX.out.2.1 (HT4.out.box 3 rfl)
  have hel := (box_cells HT4.out (i := 3) rfl).2.2
  go_wp2_with fail
  refine (fault_bare ⟨v, 0, 0⟩ eb _ he hel).mono ?_
  rintro e w6 ⟨rfl, hb⟩
  have HH := Lib.hid (HT4.out.grow hb).drew
  clear he hel q0 ql hb HT4
  go_upto_region 8 with (fail)
  refine wp_region_held_drew (S := fun w' => Hp w (fun _ => False) w' [Ob.box cb (.cells cL.toArray 36), Ob.box ob (opC k v c s x), Ob.box fb badC, Ob.box eb (.cells (cL ++ [Value.pointer none, Value.pointer none]).toArray 40)]) (by kernel_rfl) HH.out (fun hHeld => ?_)
  refine wpAnyH_take (i := 0) (oi := _) (v := ?_) rfl (by kernel_rfl) (by kernel_rfl) (by kernel_rfl) (fun _ _ _ h => h) (Or.inl ⟨by rfl, ?_⟩) (by assumption) ?_
  rotate_left
  · (intro w hSw; (try dsimp only at hSw); go_simp <;> rfl)
  simp only [Act.put, lz0, lz1, lz2, lz3, lz4, lz5]
  refine wpAnyH_take (i := 1) (oi := _) (v := ?_) rfl (by kernel_rfl) (by kernel_rfl) (by kernel_rfl) (fun _ _ _ h => h) (Or.inl ⟨by rfl, ?_⟩) (by assumption) ?_
  rotate_left
  · (intro w hSw; have el := (box_cells hSw (i := 3) rfl).2.2; (try dsimp only at hSw); go_simp <;> rfl)
  simp only [Act.put, lz0, lz1, lz2, lz3, lz4, lz5]
  refine wpAnyH_take (i := 2) (oi := _) (v := ?_) rfl (by kernel_rfl) (by kernel_rfl) (by kernel_rfl) (fun _ _ _ h => h) (Or.inl ⟨by rfl, ?_⟩) (by assumption) ?_
  rotate_left
  · (intro w hSw; have el := (box_cells hSw (i := 3) rfl).2.2; (try dsimp only at hSw); go_simp <;> rfl)
  simp only [Act.put, lz0, lz1, lz2, lz3, lz4, lz5]
  refine wpAnyH_take (i := 3) (oi := _) (v := _) rfl (by kernel_rfl) (by kernel_rfl) (by kernel_rfl) (fun _ _ _ h => h) (yieldsIf_load_mid (by rfl) _ _ rfl eb _ rfl cL _ (fun _ h => left_range (h.box 3 rfl)) Tryz.underlying36 rfl HX.out.1) (by assumption) ?_
  simp only [Act.put, lz0, lz1, lz2, lz3, lz4, lz5]
  refine wpAnyH_take (i := 4) (oi := _) (v := _) rfl (by kernel_rfl) (by kernel_rfl) (by kernel_rfl) (fun _ _ _ h => h) (yieldsIf_load_mid (by rfl) _ _ rfl cb _ rfl cL _ (fun _ h => box_range (i := 0) h rfl) Tryz.underlying36 rfl HX.out.1) (by assumption) ?_
  simp only [Act.put, lz0, lz1, lz2, lz3, lz4, lz5]
  refine wpAnyH_take (i := 5) (oi := _) (v := .bool true) rfl (by kernel_rfl) (by kernel_rfl) (by kernel_rfl) (fun _ _ _ h => h) (yieldsIf_eql (by rfl) 36 _ _ _ rfl cL.toArray rfl rfl (by kernel_rfl) HX.out.2.2.2) (by assumption) ?_
  simp only [Act.put, lz0, lz1, lz2, lz3, lz4, lz5]
  refine wpAnyH_take (i := 6) (oi := _) (v := ?_) rfl (by kernel_rfl) (by kernel_rfl) (by kernel_rfl) (fun _ _ _ h => h) (Or.inl ⟨by rfl, ?_⟩) (by assumption) ?_
  rotate_left
  · (intro w hSw; (try dsimp only at hSw); go_simp <;> rfl)
  simp only [Act.put, lz0, lz1, lz2, lz3, lz4, lz5]
  refine wpAnyH_take (i := 7) (oi := _) (v := ?_) rfl (by kernel_rfl) (by kernel_rfl) (by kernel_rfl) (fun _ _ _ h => h) (Or.inl ⟨by rfl, ?_⟩) (by assumption) ?_
  rotate_left
  · (intro w hSw; have q0 := (box_cells hSw (i := 1) rfl).1 1; have q1 := (box_cells hSw (i := 1) rfl).1 2; have q2 := (box_cells hSw (i := 1) rfl).1 3; have ql := (box_cells hSw (i := 1) rfl).2.2; simp at q0 q1 q2; (try dsimp only at hSw); go_simp <;> rfl)
  simp only [Act.put, lz0, lz1, lz2, lz3, lz4, lz5]
  refine wpAnyH_take (i := 8) (oi := _) (v := ?_) rfl (by kernel_rfl) (by kernel_rfl) (by kernel_rfl) (fun _ _ _ h => h) (Or.inl ⟨by rfl, ?_⟩) (by assumption) ?_
  rotate_left
  · (intro w hSw; have q0 := (box_cells hSw (i := 1) rfl).1 1; have q1 := (box_cells hSw (i := 1) rfl).1 2; have q2 := (box_cells hSw (i := 1) rfl).1 3; have ql := (box_cells hSw (i := 1) rfl).2.2; simp at q0 q1 q2; (try dsimp only at hSw); go_simp <;> rfl)
  simp only [Act.put, lz0, lz1, lz2, lz3, lz4, lz5]
  refine wpAnyH_take (i := 9) (oi := _) (v := ?_) rfl (by kernel_rfl) (by kernel_rfl) (by kernel_rfl) (fun _ _ _ h => h) (Or.inl ⟨by rfl, ?_⟩) (by assumption) ?_
  rotate_left
  · (intro w hSw; have q0 := (box_cells hSw (i := 1) rfl).1 1; have q1 := (box_cells hSw (i := 1) rfl).1 2; have q2 := (box_cells hSw (i := 1) rfl).1 3; have ql := (box_cells hSw (i := 1) rfl).2.2; simp at q0 q1 q2; (try dsimp only at hSw); go_simp <;> rfl)
  simp only [Act.put, lz0, lz1, lz2, lz3, lz4, lz5]
  refine wpAnyH_take (i := 10) (oi := _) (v := ?_) rfl (by kernel_rfl) (by kernel_rfl) (by kernel_rfl) (fun _ _ _ h => h) (Or.inl ⟨by rfl, ?_⟩) (by assumption) ?_
  rotate_left
  · (intro w hSw; have q0 := (box_cells hSw (i := 1) rfl).1 1; have q1 := (box_cells hSw (i := 1) rfl).1 2; have q2 := (box_cells hSw (i := 1) rfl).1 3; have ql := (box_cells hSw (i := 1) rfl).2.2; simp at q0 q1 q2; (try dsimp only at hSw); go_simp <;> rfl)
  simp only [Act.put, lz0, lz1, lz2, lz3, lz4, lz5]
  refine wpAnyH_take (i := 11) (oi := _) (v := ?_) rfl (by kernel_rfl) (by kernel_rfl) (by kernel_rfl) (fun _ _ _ h => h) (Or.inl ⟨by rfl, ?_⟩) (by assumption) ?_
  rotate_left
  · (intro w hSw; have q0 := (box_cells hSw (i := 1) rfl).1 1; have q1 := (box_cells hSw (i := 1) rfl).1 2; have q2 := (box_cells hSw (i := 1) rfl).1 3; have ql := (box_cells hSw (i := 1) rfl).2.2; simp at q0 q1 q2; (try dsimp only at hSw); go_simp <;> rfl)
  simp only [Act.put, lz0, lz1, lz2, lz3, lz4, lz5]
  refine wpAnyH_take (i := 12) (oi := _) (v := ?_) rfl (by kernel_rfl) (by kernel_rfl) (by kernel_rfl) (fun _ _ _ h => h) (Or.inl ⟨by rfl, ?_⟩) (by assumption) ?_
  rotate_left
  · (intro w hSw; have q0 := (box_cells hSw (i := 1) rfl).1 1; have q1 := (box_cells hSw (i := 1) rfl).1 2; have q2 := (box_cells hSw (i := 1) rfl).1 3; have ql := (box_cells hSw (i := 1) rfl).2.2; simp at q0 q1 q2; (try dsimp only at hSw); go_simp <;> rfl)
  simp only [Act.put, lz0, lz1, lz2, lz3, lz4, lz5]
  refine wpAnyH_take (i := 14) (oi := _) (v := ?_) rfl (by kernel_rfl) (by kernel_rfl) (by kernel_rfl) (fun _ _ _ h => h) (Or.inl ⟨by rfl, ?_⟩) (by assumption) ?_
  rotate_left
  · (intro w hSw; have b0 := (box_cells hSw (i := 2) rfl).1 0; have b1 := (box_cells hSw (i := 2) rfl).1 1; have b2 := (box_cells hSw (i := 2) rfl).1 2; have bl := (box_cells hSw (i := 2) rfl).2.2; simp at b0 b1 b2; (try dsimp only at hSw); go_simp <;> rfl)
  simp only [Act.put, lz0, lz1, lz2, lz3, lz4, lz5]
  refine wpAnyH_ready (rs := [13]) (by kernel_rfl) (by decide) (AllReadyH.cons rfl (fun K hK => ?_) AllReadyH.nil)
  go_simp
  refine (enter_none v c s _).mono ?_
  rintro e w7 ⟨rfl, hb⟩
  refine hK.out _ _ (hHeld.grow hb) (fun hHeld => ?_)
  clear hK K
  try simp only [Act.put, lz0, lz1, lz2, lz3, lz4, lz5]
  refine wpAnyH_take (i := 15) (oi := _) (v := ?_) rfl (by kernel_rfl) (by kernel_rfl) (by kernel_rfl) (fun _ _ _ h => h) (Or.inl ⟨by rfl, ?_⟩) (by assumption) ?_
  rotate_left
  · (intro w hSw; (try dsimp only at hSw); go_simp <;> rfl)
  simp only [Act.put, lz0, lz1, lz2, lz3, lz4, lz5]
  refine wpAnyH_take (i := 16) (oi := _) (v := ?_) rfl (by kernel_rfl) (by kernel_rfl) (by kernel_rfl) (fun _ _ _ h => h) (Or.inl ⟨by rfl, ?_⟩) (by assumption) ?_
  rotate_left
  · (intro w hSw; (try dsimp only at hSw); go_simp <;> rfl)
  simp only [Act.put, lz0, lz1, lz2, lz3, lz4, lz5]
  refine wpAnyH_take (i := 17) (oi := _) (v := ?_) rfl (by kernel_rfl) (by kernel_rfl) (by kernel_rfl) (fun _ _ _ h => h) (Or.inl ⟨by rfl, ?_⟩) (by assumption) ?_
  rotate_left
  · (intro w hSw; (try dsimp only at hSw); go_simp <;> rfl)
  simp only [Act.put, lz0, lz1, lz2, lz3, lz4, lz5]
  refine wpAnyH_take (i := 18) (oi := _) (v := ?_) rfl (by kernel_rfl) (by kernel_rfl) (by kernel_rfl) (fun _ _ _ h => h) (Or.inl ⟨by rfl, ?_⟩) (by assumption) ?_
  rotate_left
  · (intro w hSw; have q0 := (box_cells hSw (i := 1) rfl).1 1; have q1 := (box_cells hSw (i := 1) rfl).1 2; have q2 := (box_cells hSw (i := 1) rfl).1 3; have ql := (box_cells hSw (i := 1) rfl).2.2; simp at q0 q1 q2; (try dsimp only at hSw); go_simp <;> rfl)
  simp only [Act.put, lz0, lz1, lz2, lz3, lz4, lz5]
  refine wpAnyH_take (i := 19) (oi := _) (v := ?_) rfl (by kernel_rfl) (by kernel_rfl) (by kernel_rfl) (fun _ _ _ h => h) (Or.inl ⟨by rfl, ?_⟩) (by assumption) ?_
  rotate_left
  · (intro w hSw; have q0 := (box_cells hSw (i := 1) rfl).1 1; have q1 := (box_cells hSw (i := 1) rfl).1 2; have q2 := (box_cells hSw (i := 1) rfl).1 3; have ql := (box_cells hSw (i := 1) rfl).2.2; simp at q0 q1 q2; (try dsimp only at hSw); go_simp <;> rfl)
  simp only [Act.put, lz0, lz1, lz2, lz3, lz4, lz5]
  refine wpAnyH_take (i := 21) (oi := _) (v := ?_) rfl (by kernel_rfl) (by kernel_rfl) (by kernel_rfl) (fun _ _ _ h => h) (Or.inl ⟨by rfl, ?_⟩) (by assumption) ?_
  rotate_left
  · (intro w hSw; have b0 := (box_cells hSw (i := 2) rfl).1 0; have b1 := (box_cells hSw (i := 2) rfl).1 1; have b2 := (box_cells hSw (i := 2) rfl).1 2; have bl := (box_cells hSw (i := 2) rfl).2.2; simp at b0 b1 b2; (try dsimp only at hSw); go_simp <;> rfl)
  simp only [Act.put, lz0, lz1, lz2, lz3, lz4, lz5]
  refine wpAnyH_ready (rs := [20]) (by kernel_rfl) (by decide) (AllReadyH.cons rfl (fun K hK => ?_) AllReadyH.nil)
  go_simp
  refine (return_none c _).mono ?_
  rintro e w8 ⟨rfl, hb⟩
  refine hK.out _ _ (hHeld.grow hb) (fun hHeld => ?_)
  clear hK K
  try simp only [Act.put, lz0, lz1, lz2, lz3, lz4, lz5]
  refine wpAnyH_take (i := 22) (oi := _) (v := ?_) rfl (by kernel_rfl) (by kernel_rfl) (by kernel_rfl) (fun _ _ _ h => h) (Or.inl ⟨by rfl, ?_⟩) (by assumption) ?_
  rotate_left
  · (intro w hSw; (try dsimp only at hSw); go_simp <;> rfl)
  simp only [Act.put, lz0, lz1, lz2, lz3, lz4, lz5]
  refine wpAnyH_take (i := 23) (oi := _) (v := ?_) rfl (by kernel_rfl) (by kernel_rfl) (by kernel_rfl) (fun _ _ _ h => h) (Or.inl ⟨by rfl, ?_⟩) (by assumption) ?_
  rotate_left
  · (intro w hSw; (try dsimp only at hSw); go_simp <;> rfl)
  simp only [Act.put, lz0, lz1, lz2, lz3, lz4, lz5]
  refine wpAnyH_take (i := 24) (oi := _) (v := ?_) rfl (by kernel_rfl) (by kernel_rfl) (by kernel_rfl) (fun _ _ _ h => h) (Or.inl ⟨by rfl, ?_⟩) (by assumption) ?_
  rotate_left
  · (intro w hSw; (try dsimp only at hSw); go_simp <;> rfl)
  simp only [Act.put, lz0, lz1, lz2, lz3, lz4, lz5]
  refine wpAnyH_take (i := 25) (oi := _) (v := ?_) rfl (by kernel_rfl) (by kernel_rfl) (by kernel_rfl) (fun _ _ _ h => h) (Or.inl ⟨by rfl, ?_⟩) (by assumption) ?_
  rotate_left
  · (intro w hSw; (try dsimp only at hSw); go_simp <;> rfl)
  simp only [Act.put, lz0, lz1, lz2, lz3, lz4, lz5]
  refine wpAnyH_take (i := 26) (oi := _) (v := ?_) rfl (by kernel_rfl) (by kernel_rfl) (by kernel_rfl) (fun _ _ _ h => h) (Or.inl ⟨by rfl, ?_⟩) (by assumption) ?_
  rotate_left
  · (intro w hSw; have q0 := (box_cells hSw (i := 1) rfl).1 1; have q1 := (box_cells hSw (i := 1) rfl).1 2; have q2 := (box_cells hSw (i := 1) rfl).1 3; have ql := (box_cells hSw (i := 1) rfl).2.2; simp at q0 q1 q2; (try dsimp only at hSw); go_simp <;> rfl)
  simp only [Act.put, lz0, lz1, lz2, lz3, lz4, lz5]
  refine wpAnyH_take (i := 27) (oi := _) (v := ?_) rfl (by kernel_rfl) (by kernel_rfl) (by kernel_rfl) (fun _ _ _ h => h) (Or.inl ⟨by rfl, ?_⟩) (by assumption) ?_
  rotate_left
  · (intro w hSw; have q0 := (box_cells hSw (i := 1) rfl).1 1; have q1 := (box_cells hSw (i := 1) rfl).1 2; have q2 := (box_cells hSw (i := 1) rfl).1 3; have ql := (box_cells hSw (i := 1) rfl).2.2; simp at q0 q1 q2; (try dsimp only at hSw); go_simp <;> rfl)
  simp only [Act.put, lz0, lz1, lz2, lz3, lz4, lz5]
  refine wpAnyH_take (i := 28) (oi := _) (v := ?_) rfl (by kernel_rfl) (by kernel_rfl) (by kernel_rfl) (fun _ _ _ h => h) (Or.inl ⟨by rfl, ?_⟩) (by assumption) ?_
  rotate_left
  · (intro w hSw; have q0 := (box_cells hSw (i := 1) rfl).1 1; have q1 := (box_cells hSw (i := 1) rfl).1 2; have q2 := (box_cells hSw (i := 1) rfl).1 3; have ql := (box_cells hSw (i := 1) rfl).2.2; simp at q0 q1 q2; (try dsimp only at hSw); go_simp <;> rfl)
  simp only [Act.put, lz0, lz1, lz2, lz3, lz4, lz5]
  refine wpAnyH_take (i := 29) (oi := _) (v := ?_) rfl (by kernel_rfl) (by kernel_rfl) (by kernel_rfl) (fun _ _ _ h => h) (Or.inl ⟨by rfl, ?_⟩) (by assumption) ?_
  rotate_left
  · (intro w hSw; have q0 := (box_cells hSw (i := 1) rfl).1 1; have q1 := (box_cells hSw (i := 1) rfl).1 2; have q2 := (box_cells hSw (i := 1) rfl).1 3; have ql := (box_cells hSw (i := 1) rfl).2.2; simp at q0 q1 q2; (try dsimp only at hSw); go_simp <;> rfl)
  simp only [Act.put, lz0, lz1, lz2, lz3, lz4, lz5]
  refine wpAnyH_take (i := 30) (oi := _) (v := ?_) rfl (by kernel_rfl) (by kernel_rfl) (by kernel_rfl) (fun _ _ _ h => h) (Or.inl ⟨by rfl, ?_⟩) (by assumption) ?_
  rotate_left
  · (intro w hSw; have q0 := (box_cells hSw (i := 1) rfl).1 1; have q1 := (box_cells hSw (i := 1) rfl).1 2; have q2 := (box_cells hSw (i := 1) rfl).1 3; have ql := (box_cells hSw (i := 1) rfl).2.2; simp at q0 q1 q2; (try dsimp only at hSw); go_simp <;> rfl)
  simp only [Act.put, lz0, lz1, lz2, lz3, lz4, lz5]
  refine wpAnyH_take (i := 31) (oi := _) (v := ?_) rfl (by kernel_rfl) (by kernel_rfl) (by kernel_rfl) (fun _ _ _ h => h) (Or.inl ⟨by rfl, ?_⟩) (by assumption) ?_
  rotate_left
  · (intro w hSw; have q0 := (box_cells hSw (i := 1) rfl).1 1; have q1 := (box_cells hSw (i := 1) rfl).1 2; have q2 := (box_cells hSw (i := 1) rfl).1 3; have ql := (box_cells hSw (i := 1) rfl).2.2; simp at q0 q1 q2; (try dsimp only at hSw); go_simp <;> rfl)
  simp only [Act.put, lz0, lz1, lz2, lz3, lz4, lz5]
  refine wpAnyH_take (i := 33) (oi := _) (v := ?_) rfl (by kernel_rfl) (by kernel_rfl) (by kernel_rfl) (fun _ _ _ h => h) (Or.inl ⟨by rfl, ?_⟩) (by assumption) ?_
  rotate_left
  · (intro w hSw; have b0 := (box_cells hSw (i := 2) rfl).1 0; have b1 := (box_cells hSw (i := 2) rfl).1 1; have b2 := (box_cells hSw (i := 2) rfl).1 2; have bl := (box_cells hSw (i := 2) rfl).2.2; simp at b0 b1 b2; (try dsimp only at hSw); go_simp <;> rfl)
  simp only [Act.put, lz0, lz1, lz2, lz3, lz4, lz5]
  refine wpAnyH_ready (rs := [32]) (by kernel_rfl) (by decide) (AllReadyH.cons rfl (fun K hK => ?_) AllReadyH.nil)
  go_simp
  refine (enter_bare v c s _ eb (bare_cell HX.out.2.1 (hHeld.box 3 rfl)) (box_cells hHeld (i := 3) rfl).2.2).mono ?_
  rintro e w9 ⟨rfl, hb⟩
  refine hK.out _ _ (hHeld.grow hb) (fun hHeld => ?_)
  clear hK K
  try simp only [Act.put, lz0, lz1, lz2, lz3, lz4, lz5]
  refine wpAnyH_take (i := 34) (oi := _) (v := ?_) rfl (by kernel_rfl) (by kernel_rfl) (by kernel_rfl) (fun _ _ _ h => h) (Or.inl ⟨by rfl, ?_⟩) (by assumption) ?_
  rotate_left
  · (intro w hSw; (try dsimp only at hSw); go_simp <;> rfl)
  simp only [Act.put, lz0, lz1, lz2, lz3, lz4, lz5]
  refine wpAnyH_take (i := 35) (oi := _) (v := ?_) rfl (by kernel_rfl) (by kernel_rfl) (by kernel_rfl) (fun _ _ _ h => h) (Or.inl ⟨by rfl, ?_⟩) (by assumption) ?_
  rotate_left
  · (intro w hSw; (try dsimp only at hSw); go_simp <;> rfl)
  simp only [Act.put, lz0, lz1, lz2, lz3, lz4, lz5]
  refine wpAnyH_take (i := 36) (oi := _) (v := ?_) rfl (by kernel_rfl) (by kernel_rfl) (by kernel_rfl) (fun _ _ _ h => h) (Or.inl ⟨by rfl, ?_⟩) (by assumption) ?_
  rotate_left
  · (intro w hSw; (try dsimp only at hSw); go_simp <;> rfl)
  simp only [Act.put, lz0, lz1, lz2, lz3, lz4, lz5]
  refine wpAnyH_take (i := 37) (oi := _) (v := ?_) rfl (by kernel_rfl) (by kernel_rfl) (by kernel_rfl) (fun _ _ _ h => h) (Or.inl ⟨by rfl, ?_⟩) (by assumption) ?_
  rotate_left
  · (intro w hSw; (try dsimp only at hSw); go_simp <;> rfl)
  simp only [Act.put, lz0, lz1, lz2, lz3, lz4, lz5]
  refine wpAnyH_take (i := 38) (oi := _) (v := ?_) rfl (by kernel_rfl) (by kernel_rfl) (by kernel_rfl) (fun _ _ _ h => h) (Or.inl ⟨by rfl, ?_⟩) (by assumption) ?_
  rotate_left
  · (intro w hSw; have q0 := (box_cells hSw (i := 1) rfl).1 1; have q1 := (box_cells hSw (i := 1) rfl).1 2; have q2 := (box_cells hSw (i := 1) rfl).1 3; have ql := (box_cells hSw (i := 1) rfl).2.2; simp at q0 q1 q2; (try dsimp only at hSw); go_simp <;> rfl)
  simp only [Act.put, lz0, lz1, lz2, lz3, lz4, lz5]
  refine wpAnyH_take (i := 39) (oi := _) (v := ?_) rfl (by kernel_rfl) (by kernel_rfl) (by kernel_rfl) (fun _ _ _ h => h) (Or.inl ⟨by rfl, ?_⟩) (by assumption) ?_
  rotate_left
  · (intro w hSw; have q0 := (box_cells hSw (i := 1) rfl).1 1; have q1 := (box_cells hSw (i := 1) rfl).1 2; have q2 := (box_cells hSw (i := 1) rfl).1 3; have ql := (box_cells hSw (i := 1) rfl).2.2; simp at q0 q1 q2; (try dsimp only at hSw); go_simp <;> rfl)
  simp only [Act.put, lz0, lz1, lz2, lz3, lz4, lz5]
  refine wpAnyH_take (i := 41) (oi := _) (v := ?_) rfl (by kernel_rfl) (by kernel_rfl) (by kernel_rfl) (fun _ _ _ h => h) (Or.inl ⟨by rfl, ?_⟩) (by assumption) ?_
  rotate_left
  · (intro w hSw; have b0 := (box_cells hSw (i := 2) rfl).1 0; have b1 := (box_cells hSw (i := 2) rfl).1 1; have b2 := (box_cells hSw (i := 2) rfl).1 2; have bl := (box_cells hSw (i := 2) rfl).2.2; simp at b0 b1 b2; (try dsimp only at hSw); go_simp <;> rfl)
  simp only [Act.put, lz0, lz1, lz2, lz3, lz4, lz5]
  refine wpAnyH_ready (rs := [40]) (by kernel_rfl) (by decide) (AllReadyH.cons rfl (fun K hK => ?_) AllReadyH.nil)
  go_simp
  refine (return_bare c _ eb (bare_cell HX.out.2.1 (hHeld.box 3 rfl)) (box_cells hHeld (i := 3) rfl).2.2).mono ?_
  rintro e w10 ⟨rfl, hb⟩
  refine hK.out _ _ (hHeld.grow hb) (fun hHeld => ?_)
  clear hK K
  try simp only [Act.put, lz0, lz1, lz2, lz3, lz4, lz5]
  refine wpAnyH_take (i := 42) (oi := _) (v := ?_) rfl (by kernel_rfl) (by kernel_rfl) (by kernel_rfl) (fun _ _ _ h => h) (Or.inl ⟨by rfl, ?_⟩) (by assumption) ?_
  rotate_left
  · (intro w hSw; (try dsimp only at hSw); go_simp <;> rfl)
  simp only [Act.put, lz0, lz1, lz2, lz3, lz4, lz5]
  refine wpAnyH_take (i := 43) (oi := _) (v := ?_) rfl (by kernel_rfl) (by kernel_rfl) (by kernel_rfl) (fun _ _ _ h => h) (Or.inl ⟨by rfl, ?_⟩) (by assumption) ?_
  rotate_left
  · (intro w hSw; (try dsimp only at hSw); go_simp <;> rfl)
  simp only [Act.put, lz0, lz1, lz2, lz3, lz4, lz5]
  refine wpAnyH_take (i := 44) (oi := _) (v := ?_) rfl (by kernel_rfl) (by kernel_rfl) (by kernel_rfl) (fun _ _ _ h => h) (Or.inl ⟨by rfl, ?_⟩) (by assumption) ?_
  rotate_left
  · (intro w hSw; (try dsimp only at hSw); go_simp <;> rfl)
  simp only [Act.put, lz0, lz1, lz2, lz3, lz4, lz5]
  refine wpAnyH_done (by kernel_rfl) ?_ _
  go_wp2_with fail
  go_returns
  exact ⟨rfl, hHeld.below⟩

set_option maxRecDepth 100000 in
theorem lifted (os : Os) (started : os.Started) (H : Type) (enc : TypeId × Value → H) :
    ReturnsInHanded {} Tryz.checked os 7 .any (Rows.exceptNilSpec.pre6 enc Tryz.prog Tryz.f7 Rows.exceptNilRow.domain false) (Rows.exceptNilSpec.post enc Tryz.prog Tryz.f7 false true false false) := by
  refine returnsInHanded_of_change (C := Tryz.checked) own started (by kernel_rfl) Tryz.func7
    (ChangeSpec.witness6 (enc := enc) (C := Tryz.checked) false ⟨#[], #[.agg #[.int .u32 0, .int .u32 0, .int .u32 0, .int .u32 0, .int .u32 0, .int .u32 0, .int .u32 0, .int .u32 0, .int .u32 0, .int .u32 0, .int .u16 0, .bool false, .int .u32 0, .int .u32 0, .int .i64 0, .bool false, .int .i64 0, .bool false, .bool false, .int .u16 0, .bool false, .int .u32 0, .int .u32 0, .int .i64 0, .bool false, .int .i64 0, .bool false, .bool false, .int .u16 0, .bool false, .int .u32 0, .int .u32 0, .int .i64 0, .bool false, .int .i64 0, .bool false, .bool false, .int .u16 0, .bool false, .int .u32 0, .int .u32 0, .int .i64 0, .bool false, .int .i64 0, .bool false, .bool false, .int .u16 0, .bool false, .int .u32 0, .int .u32 0, .int .i64 0, .bool false, .int .i64 0, .bool false, .bool false, .int .u16 0, .bool false, .int .u32 0, .int .u32 0, .int .i64 0, .bool false, .int .i64 0, .bool false, .bool false, .int .u32 0, .int .u32 0, .int .u32 0, .int .u32 0, .int .u16 0, .int .u32 0, .int .u16 0, .int .u16 0, .bool false, .int .u32 0, .int .u32 0, .int .i64 0, .bool false, .int .i64 0, .bool false, .bool false, .bool false, .bool false, .bool false], .agg #[.int .i64 0, .int .i64 0, .int .i64 0, .bool false, .int .u32 0]], []⟩ 8 (by kernel_rfl) (by kernel_rfl) (by kernel_rfl) (by kernel_rfl)) ?_
  intro W base args ds gs before hval0 hW hcnd _
  have hval : ∀ (j : Nat) t v, Tryz.f7.params[j]? = some t → args[j]? = some v → Value.okWide Tryz.prog W .any base t v := hval0
  have hW' := hW
  obtain ⟨p, q, hA0, hV, rfl, hfz, hnd⟩ := hW
  have hA : DataW.TrodAll enc Tryz.prog W 0 (fun _ => true) true Tryz.f7.params.toList args.toList ds p := hA0
  rw [Tryz.params7] at hA hval
  obtain ⟨v0, vs0, d0, ds0, p0, q0, hargs, rfl, rfl, h0, r0⟩ := trodAll_cons hA
  obtain ⟨v1, vs1, d1, ds1, p1, q1, rfl, rfl, rfl, h1, r1⟩ := trodAll_cons r0
  obtain ⟨rfl, rfl, rfl⟩ := trodAll_nil r1
  obtain rfl : args = #[v0, v1] := by cases args; simp_all
  clear hA0 hval0
  obtain ⟨C0, _, rfl⟩ := open_cpu (hval 0 36 v0 rfl rfl)
  obtain ⟨k1, a1, c1, s1, x1, rfl⟩ := open_op (hval 1 57 v1 rfl rfl)
  exact law_end (by kernel_rfl) hW' rfl (by kernel_rfl) Tryz.underlying4 rfl rfl (walk C0 k1 a1 c1 s1 x1 W)

theorem proved : Rows.ExceptNilSaid :=
  OpenClaim.holds_of_wide 7 Tryz.f7 rfl rfl rfl rfl rfl rfl rfl ⟨rfl, rfl, rfl, rfl, rfl⟩ rfl rfl rfl rfl rfl (by kernel_rfl) Tryz.func7 (by kernel_rfl)
    (of_decide_eq_true (by kernel_rfl)) (by unfold Func.isWrapper; first | (rw [if_pos (by decide +kernel)]; kernel_rfl) | (rw [if_neg (by decide +kernel)]; exact ⟨rfl, rfl⟩))
    (fun os started H enc _ => lifted os started H enc)
#print axioms proved
end Go.Proofs.YtmpcafdgkbpneaaGreat.exceptNil
