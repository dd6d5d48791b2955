/- Steps of a proof: ExEq, ExAwake, together. -/
import Derived.Test.YtmpcafdgkbpneaaGreatS8
import Derived.DeepKeys
import Derived.Laws.StructEq
import Derived.Test.YtmpcafdgkbpneaaGreatS39
import Derived.Test.YtmpcafdgkbpneaaGreatS27
import Derived.Test.YtmpcafdgkbpneaaGreatS19
import Derived.Test.YtmpcafdgkbpneaaGreatS26
/- except's laws: what is compared with itself is equal. -/
open List renaming getElem_toArray → lz0, getElem_cons_zero → lz1, getElem_cons_succ → lz2, setIfInBounds_toArray → lz3, set_cons_zero → lz4, set_cons_succ → lz5
set_option maxHeartbeats 4000000
set_option maxRecDepth 20000
namespace Go.Proofs.YtmpcafdgkbpneaaGreat
open Go.RowKit Go.MapKept
set_option linter.unusedVariables false

def selfOk (P : Program) : Nat → TypeId → List Value → Bool
 | 0, _, _ => false
 | d + 1, t, cs =>
  match P.underlying t, cs with
  | some .bool, [.bool _] => true
  | some (.int _), [.int _ _] => true
  | some (.array n e), cs => cs.length == P.cellsOf t && (List.range n).all fun i => selfOk P d e ((cs.drop (i * P.cellsOf e)).take (P.cellsOf e))
  | some (.struct fs), cs => cs.length == P.cellsOf t && fs.toList.all fun f => selfOk P d f.type ((cs.drop f.offset).take (P.cellsOf f.type))
  | _, _ => false
section
variable {P : Program} (w : World)
theorem self_bool {D : Nat} {t : TypeId} {cs : List Value} (hu : P.underlying t = some .bool) (h : selfOk P D t cs = true) : ∃ b, cs = [.bool b] := by
 cases D with
 | zero => simp [selfOk] at h
 | succ D =>
  unfold selfOk at h
  rw [hu] at h
  split at h <;> simp_all
theorem self_int {D : Nat} {t : TypeId} {q : IntKind} {cs : List Value} (hu : P.underlying t = some (.int q)) (h : selfOk P D t cs = true) : ∃ k n, cs = [.int k n] := by
 cases D with
 | zero => simp [selfOk] at h
 | succ D =>
  unfold selfOk at h
  rw [hu] at h
  split at h <;> simp_all
theorem self_array {D n : Nat} {t e : TypeId} {cs : List Value} (hu : P.underlying t = some (.array n e)) (h : selfOk P D t cs = true) : cs.length = P.cellsOf t ∧ ∃ D', ∀ i ∈ List.range n, selfOk P D' e ((cs.drop (i * P.cellsOf e)).take (P.cellsOf e)) = true := by
 cases D with
 | zero => simp [selfOk] at h
 | succ D =>
  unfold selfOk at h
  rw [hu] at h
  simp only [Bool.and_eq_true, beq_iff_eq] at h
  exact ⟨h.1, D, List.all_eq_true.1 h.2⟩
theorem self_struct {D : Nat} {t : TypeId} {fs : Array Field} {cs : List Value} (hu : P.underlying t = some (.struct fs)) (h : selfOk P D t cs = true) : cs.length = P.cellsOf t ∧ ∃ D', ∀ f ∈ fs.toList, selfOk P D' f.type ((cs.drop f.offset).take (P.cellsOf f.type)) = true := by
 cases D with
 | zero => simp [selfOk] at h
 | succ D =>
  unfold selfOk at h
  rw [hu] at h
  simp only [Bool.and_eq_true, beq_iff_eq] at h
  exact ⟨h.1, D, List.all_eq_true.1 h.2⟩
theorem part_self {e : TypeId} {D off : Nat} {xs : Array Value} (hk : ∃ m, P.keyTypeAt m e = true) (ha : selfOk P D e ((xs.toList.drop off).take (P.cellsOf e)) = true) :
    ∃ a, (part e xs off).run P w = .ok a w ∧ a.formed P e = true ∧ a.cells.toList = (xs.toList.drop off).take (P.cellsOf e) := by
 obtain ⟨m, hk⟩ := hk
 cases m with
 | zero => simp [Program.keyTypeAt] at hk
 | succ m =>
  unfold Program.keyTypeAt at hk
  cases hu : P.underlying e with
  | none => simp [hu] at hk
  | some kd =>
   have agg : (∃ n e', kd = .array n e') ∨ (∃ fs, kd = .struct fs) → ∃ a, (part e xs off).run P w = .ok a w ∧ a.formed P e = true ∧ a.cells.toList = (xs.toList.drop off).take (P.cellsOf e) := by
    intro hk
    obtain ⟨i, hi⟩ := info_of_underlying hu
    have hlen : ((xs.toList.drop off).take (P.cellsOf e)).length = P.cellsOf e := by
     rcases hk with ⟨n, e', rfl⟩ | ⟨fs, rfl⟩
     ·exact (self_array hu ha).1
     ·exact (self_struct hu ha).1
    have hl : (xs.extract off (off + P.cellsOf e)).toList = (xs.toList.drop off).take (P.cellsOf e) := by
     rw [Array.toList_extract]
     simp [List.extract]
    refine ⟨.agg (xs.extract off (off + P.cellsOf e)), ?_, ?_, hl⟩
    ·rcases hk with ⟨n, e', rfl⟩ | ⟨fs, rfl⟩ <;> simp [part, isAgg, run_underlying hu, run_sizeOf w hi]
    ·have hs : (xs.extract off (off + P.cellsOf e)).size = P.cellsOf e := by rw [← Array.length_toList, hl, hlen]
     rcases hk with ⟨n, e', rfl⟩ | ⟨fs, rfl⟩ <;> simp [Value.formed, hu, hs]
   cases kd
   case bool =>
    obtain ⟨b, ea⟩ := self_bool hu ha
    exact ⟨.bool b, run_part_plain w (by simp [Program.plainKey, hu]) (getElem?_of_chunk ea), by simp [Value.formed, hu], by rw [ea]; rfl⟩
   case int q =>
    obtain ⟨k, n, ea⟩ := self_int hu ha
    exact ⟨.int k n, run_part_plain w (by simp [Program.plainKey, hu]) (getElem?_of_chunk ea), by simp [Value.formed, hu], by rw [ea]; rfl⟩
   case string =>
    cases D with
    | zero => simp [selfOk] at ha
    | succ D =>
     unfold selfOk at ha
     rw [hu] at ha
     simp at ha
   case array n e' => exact agg (Or.inl ⟨n, e', rfl⟩)
   case struct fs => exact agg (Or.inr ⟨fs, rfl⟩)
   all_goals (simp [hu] at hk; done)
def SelfAt (P : Program) (dd : Nat) (e : TypeId) : Prop :=
 ∀ (w : World) (D : Nat) (a : Value), a.formed P e = true → selfOk P D e a.cells.toList = true → (Op.equalIn dd e a a).run P w = .ok true w
theorem eqFields_self (dd : Nat) (xs : Array Value) {D : Nat} : ∀ (fs : List Field), (∀ f ∈ fs, f.name ≠ "_" ∧ (∃ m, P.keyTypeAt m f.type = true) ∧ SelfAt P dd f.type) →
    (∀ f ∈ fs, selfOk P D f.type ((xs.toList.drop f.offset).take (P.cellsOf f.type)) = true) → (Op.eqFields dd xs xs fs).run P w = .ok true w
 | [], _, _ => by simp [Op.eqFields]
 | f :: fs, hall, ha => by
  obtain ⟨hn, hk, hp⟩ := hall f (by simp)
  obtain ⟨a, p1, f1, c1⟩ := part_self w hk (ha f (by simp))
  have p3 := hp w D a f1 (by rw [c1]; exact ha f (by simp))
  have h := eqFields_self dd xs fs (fun g hg => hall g (by simp [hg])) (fun g hg => ha g (by simp [hg]))
  simp only [Op.eqFields, hn, ne_eq, not_false_eq_true, if_true, Sem.run_bind, p1, p3, Result.andThen_ok]
  simpa using h
theorem eqItems_self (dd : Nat) {e : TypeId} (hk : ∃ m, P.keyTypeAt m e = true) (IH : SelfAt P dd e) (xs : Array Value) {D : Nat} : ∀ (is : List Nat),
    (∀ i ∈ is, selfOk P D e ((xs.toList.drop (i * P.cellsOf e)).take (P.cellsOf e)) = true) → (Op.eqItems dd e (P.cellsOf e) xs xs is).run P w = .ok true w
 | [], _ => by simp [Op.eqItems]
 | i :: is, ha => by
  obtain ⟨a, p1, f1, c1⟩ := part_self w hk (ha i (by simp))
  have p3 := IH w D a f1 (by rw [c1]; exact ha i (by simp))
  have h := eqItems_self dd hk IH xs is (fun j hj => ha j (by simp [hj]))
  simp only [Op.eqItems, Sem.run_bind, p1, p3, Result.andThen_ok]
  simpa using h
end
theorem equalIn_self {P : Program} (d : Nat) : ∀ (m : Nat) (t : TypeId), P.keyTypeAt m t = true → SelfAt P (d + m) t
 | 0, _, h => by simp [Program.keyTypeAt] at h
 | m + 1, t, hk => by
  intro w D x fx hx
  unfold Program.keyTypeAt at hk
  cases hu : P.underlying t with
  | none => simp [hu] at hk
  | some kd =>
   cases kd
   case bool =>
    obtain ⟨b, ea⟩ := self_bool hu hx
    have hx' : x = .bool b := by cases x <;> simp_all [Value.cells, Value.formed]
    rw [hx', show d + (m + 1) = (d + m) + 1 from rfl, run_equalIn_bool' w (d + m) t b b hu]
    simp
   case int q =>
    obtain ⟨k, n, ea⟩ := self_int hu hx
    have hx' : x = .int k n := by cases x <;> simp_all [Value.cells, Value.formed]
    rw [hx', show d + (m + 1) = (d + m) + 1 from rfl, run_equalIn_int w (d + m) t k q n n hu]
    simp
   case string =>
    cases D with
    | zero => simp [selfOk] at hx
    | succ D =>
     unfold selfOk at hx
     rw [hu] at hx
     simp at hx
   case array n e =>
    simp only [hu] at hk
    cases x <;> simp only [Value.formed, hu, Bool.false_eq_true] at fx
    rename_i xs
    obtain ⟨_, D', hD⟩ := self_array hu hx
    have hpe : ∃ i, P.info? e = some i := by
     cases m with
     | zero => simp [Program.keyTypeAt] at hk
     | succ m' =>
      unfold Program.keyTypeAt at hk
      cases hue : P.underlying e with
      | none => simp [hue] at hk
      | some _ => exact info_of_underlying hue
    obtain ⟨i, hi⟩ := hpe
    rw [show d + (m + 1) = (d + m) + 1 from rfl, run_equalIn_array w (d + m) xs xs hu hi]
    exact eqItems_self w (d + m) ⟨m, hk⟩ (equalIn_self d m e hk) xs (List.range n) hD
   case struct fs =>
    simp only [hu, Bool.and_eq_true, Bool.not_eq_true'] at hk
    cases x <;> simp only [Value.formed, hu, Bool.false_eq_true] at fx
    rename_i xs
    obtain ⟨_, D', hD⟩ := self_struct hu hx
    have hfs : P.fieldsOf t = fs := by simp [Program.fieldsOf, hu]
    rw [show d + (m + 1) = (d + m) + 1 from rfl, run_equalIn_struct w (d + m) t xs xs (by rw [hfs]; exact hu) hk.2, hfs]
    exact eqFields_self w (d + m) xs fs.toList (fun f hf => by
     have := Array.all_eq_true_iff_forall_mem.1 hk.1.1 f (Array.mem_toList_iff.1 hf)
     simp only [Bool.and_eq_true, bne_iff_ne, ne_eq] at this
     exact ⟨this.1, ⟨m, this.2⟩, equalIn_self d m f.type this.2⟩) hD
   all_goals (simp [hu] at hk; done)
theorem equal_self {P : Program} {t : TypeId} {xs : Array Value} (hk : P.keyTypeAt 100 t = true) (hf : (Value.agg xs).formed P t = true) (hs : selfOk P 100 t xs.toList = true) (w : World) : (Op.equal t (.agg xs) (.agg xs)).run P w = .ok true w :=
 equalIn_self (9900 : Nat) 100 t hk w 100 (.agg xs) hf hs
theorem yieldsIf_eql {P : Program} {ops : Array Oper} {S : World → Prop} {op : Oper} {a : Act} (hw : Region.wanted op (yielded ops a.tmps) = true) (t : TypeId) (x y : Operand) (u : TypeId) (ho : op.op = .binOp .eql t x y u) (xs : Array Value)
    (hx : a.eval x = .agg xs) (hy : a.eval y = .agg xs) (hm : P.eqGuardType P.depth t = false) (he : ∀ w, (Op.equal t (.agg xs) (.agg xs)).run P w = .ok true w) : YieldsIf P ops S op (.bool true) a :=
 .inl ⟨hw, fun w _ => by
  have he := he w
  unfold Op.equal at he
  unfold execOp
  simp only [ho, hx, hy, Sem.run_bind, run_eqGuard_agg (w := w) .eql t x y xs xs hm, run_eql_struct, Result.andThen_ok]
  rw [show Op.maxDepth = 10000 from rfl] at he
  simp only [he, Result.andThen_ok, Sem.run_pure]⟩
theorem key_cpu : Tryz.prog.keyTypeAt 100 36 = true := by kernel_rfl
theorem key_regs : Tryz.prog.keyTypeAt 100 26 = true := by kernel_rfl
theorem key_segs : Tryz.prog.keyTypeAt 100 32 = true := by kernel_rfl
theorem self_cpu (C : CpuS) : selfOk Tryz.prog 100 36 C.cells = true := by kernel_rfl
theorem self_segs (f : Nat → SegR) : selfOk Tryz.prog 100 32 ((f 0).cells ++ (f 1).cells ++ (f 2).cells ++ (f 3).cells ++ (f 4).cells ++ (f 5).cells) = true := by kernel_rfl
theorem self_regs (r : Nat → Nat) : selfOk Tryz.prog 100 26 (regCells r) = true := by kernel_rfl
theorem eq_cpu (C : CpuS) (w : World) : (Op.equal 36 (.agg C.cells.toArray) (.agg C.cells.toArray)).run Tryz.prog w = .ok true w :=
 equal_self key_cpu (by kernel_rfl) (self_cpu C) w
theorem eq_regs (r : Nat → Nat) (w : World) : (Op.equal 26 (.agg (regCells r).toArray) (.agg (regCells r).toArray)).run Tryz.prog w = .ok true w :=
 equal_self key_regs (by kernel_rfl) (self_regs r) w
def segCells (f : Nat → SegR) : List Value := (f 0).cells ++ (f 1).cells ++ (f 2).cells ++ (f 3).cells ++ (f 4).cells ++ (f 5).cells
theorem eq_segs (f : Nat → SegR) (w : World) : (Op.equal 32 (.agg (segCells f).toArray) (.agg (segCells f).toArray)).run Tryz.prog w = .ok true w :=
 equal_self key_segs (by kernel_rfl) (self_segs f) w
end Go.Proofs.YtmpcafdgkbpneaaGreat

/- except's laws: the calls at the head of all statements. -/
namespace Go.Proofs.YtmpcafdgkbpneaaGreat
open Go.RowKit Go.MapKept
set_option linter.unusedVariables false
set_option linter.unusedSimpArgs false
attribute [local go_sem ↓] Go.wp_at_zero Go.wp_at_succ

section
variable {w0 w w' : World} {A0 : Nat → Prop} {os : List Ob}
theorem box_cells {i b : Nat} {xs : Array Value} {t : TypeId} (T : Hp w0 A0 w os) (h : os[i]? = some (Ob.box b (.cells xs t))) : (∀ k, w.cell? ⟨b, k, none⟩ = xs[k]?) ∧ (∀ k, w.frozen? ⟨b, k, none⟩ = false) ∧ b < w.heap.size :=
 ⟨fun k => cell_at (T.box i h), fun k => free_at (T.box i h), heap_lt (T.box i h)⟩
section
variable {eb vb bb n : Nat} {pl : Pl} {s : Es}
theorem en_heap (T : Hp w0 A0 w (oEn eb vb bb pl n s :: os)) : w.heap[eb]? = some (.cells (envCells s.C vb bb) 40) := by
 obtain ⟨A, H, E, e⟩ := T.get 0 rfl
 exact E.box
theorem en_lt (T : Hp w0 A0 w (oEn eb vb bb pl n s :: os)) : eb < w.heap.size := heap_lt (en_heap T)
theorem en_cells (T : Hp w0 A0 w (oEn eb vb bb pl n s :: os)) : w.cell? ⟨eb, 4, none⟩ = some (.int .u32 (s.C.r 4 : Nat)) ∧ w.cell? ⟨eb, 8, none⟩ = some (.int .u32 (s.C.eip : Nat)) ∧ w.cell? ⟨eb, 9, none⟩ = some (.int .u32 (s.C.flags : Nat)) :=
 ⟨cell_at (en_heap T), cell_at (en_heap T), cell_at (en_heap T)⟩
end
theorem box_range {i b : Nat} {cL : List Value} {t : TypeId} (T : Hp w0 A0 w os) (h : os[i]? = some (Ob.box b (.cells cL.toArray t))) : w.rangeAt b 0 cL := fun j v hv => by
 rw [Nat.zero_add, (box_cells T h).1 j, List.getElem?_toArray, hv]
theorem env_il (C : CpuS) (vb bb : Nat) : (envCells C vb bb).setIfInBounds 70 (.int .u16 0) = envCells { C with il := 0 } vb bb := by kernel_rfl
theorem awake18 (w : World) : Calls Tryz.prog 9 #[] w fun e w' => e = .returned (.bool true) ∧ Below w.heap.size w w' := by
 have hz := fun w => zero83 w
 go_enter Tryz.func9, Tryz.ntmps9
 go_wp2_with fail
 refine (started0 36352 (by decide) w).mono ?_
 rintro e w1 ⟨eb, vb, bb, pm, rfl, T1⟩
 have HR := Lib.hid (env_range (os := []) T1)
 have HN := Lib.hid (heap_new w1 (.cells zero83C 36))
 have HT2 := Lib.hid (show Hp w (fun _ => False) (w1.alloc (.cells (startC 0).cells.toArray 36)) [oEn eb vb bb ⟨8, pm⟩ 0 aw0s, Ob.box w1.heap.size (.cells (startC 0).cells.toArray 36)] from T1.make _)
 clear T1
 change Hid (w1.rangeAt eb 0 (startC 0).cells) at HR
 have hlen : (Tryz.prog.info? 36).map (·.size) = some (startC 0).cells.length := by rw [(startC 0).cells_len]; exact info83
 have hone := cells_one (startC 0)
 have hsz : (startC 0).cells.toArray.size = 83 := by rw [List.size_toArray]; exact (startC 0).cells_len
 have H2C : aw2s.C.cells = (startC 0).cells := aw2_c
 have HEQ := eq_cpu (startC 0)
 generalize (startC 0).cells = cL at *
 have HX := Lib.hid (And.intro hlen (And.intro hone (And.intro hsz (And.intro H2C HEQ))))
 clear hlen hone hsz H2C HEQ
 go_upto_region 5 with (first | (refine wpList_load_mid rfl _ _ rfl eb 0 rfl cL _ HR.out Tryz.underlying36 rfl HX.out.1 ?_) | (refine wpList_store_row rfl _ _ _ rfl w1.heap.size cL.toArray rfl rfl _ _ HN.out (by rw [HX.out.2.2.1]; exact info83) (by rw [HX.out.2.2.1]; rfl) HX.out.2.1 ?_))
 change Code.wp _ _ _ _ ((w1.alloc (.cells zero83C 36)).setRow w1.heap.size cL.toArray)
 rw [World.setRow_alloc_new]
 clear HR HN hz
 generalize w1.alloc (.cells cL.toArray 36) = w2 at *
 generalize w1.heap.size = cb at *
 go_wp2_with fail
 refine (HT2.out.act 0 rfl (enter_x 3 (-1) false (by decide))).mono ?_
 rw [show triedE (enterE 3 (-1) false) aw0s = (noF, aw1s) from Prod.ext aw1_f rfl]
 rintro e w3 ⟨he, T3⟩
 rw [show (noF, aw1s).1.val = Value.agg #[.int .i64 (-1), .int .i64 (-1), .int .u32 0] from rfl] at he
 subst he
 have HT3 := Lib.hid (show Hp w (fun _ => False) w3 [oEn eb vb bb ⟨8, pm⟩ 40 aw1s, Ob.box cb (.cells cL.toArray 36)] from T3)
 clear T3 HT2
 go_upto_region 6 with (fail)
 have HT4 := Lib.hid (show Hp w (fun _ => False) (w3.alloc (.cells #[.int .i64 (-1), .int .i64 (-1), .int .u32 0] 42)) [oEn eb vb bb ⟨8, pm⟩ 40 aw1s, Ob.box cb (.cells cL.toArray 36), Ob.box w3.heap.size (.cells #[.int .i64 (-1), .int .i64 (-1), .int .u32 0] 42)] from HT3.out.make _)
 change Code.wp _ _ _ _ (w3.alloc (.cells #[.int .i64 (-1), .int .i64 (-1), .int .u32 0] 42))
 generalize w3.alloc (.cells #[.int .i64 (-1), .int .i64 (-1), .int .u32 0] 42) = w4 at *
 clear HT3
 generalize w3.heap.size = fb at *
 have f0 := (box_cells HT4.out (i := 2) rfl).1 0
 have f1 := (box_cells HT4.out (i := 2) rfl).1 1
 have f2 := (box_cells HT4.out (i := 2) rfl).1 2
 simp at f0 f1 f2
 have fl := (box_cells HT4.out (i := 2) rfl).2.2
 have hel := en_lt HT4.out
 have k4 := (en_cells HT4.out).1
 have k8 := (en_cells HT4.out).2.1
 have k9 := (en_cells HT4.out).2.2
 rw [aw1_c.2.1] at k4
 rw [aw1_c.1] at k8
 rw [aw1_c.2.2] at k9
 go_upto_region 7 with (fail)
 clear k4 k8 k9 f0 f1 f2 fl hel
 go_wp2_with fail
 refine (HT4.out.act 0 rfl (return_x 4 (by decide))).mono ?_
 rw [show triedE (returnE 4) aw1s = (noF, aw2s) from Prod.ext aw2_f rfl]
 rintro e w5 ⟨he, T5⟩
 rw [show (noF, aw2s).1.val = Value.agg #[.int .i64 (-1), .int .i64 (-1), .int .u32 0] from rfl] at he
 subst he
 have HT5 := Lib.hid (show Hp w (fun _ => False) w5 [oEn eb vb bb ⟨8, pm⟩ 80 aw2s, Ob.box cb (.cells cL.toArray 36), Ob.box fb (.cells #[.int .i64 (-1), .int .i64 (-1), .int .u32 0] 42)] from T5)
 clear T5 HT4
 have f0 := (box_cells HT5.out (i := 2) rfl).1 0
 have f1 := (box_cells HT5.out (i := 2) rfl).1 1
 have f2 := (box_cells HT5.out (i := 2) rfl).1 2
 simp at f0 f1 f2
 have ff := (box_cells HT5.out (i := 2) rfl).2.1
 have fl := (box_cells HT5.out (i := 2) rfl).2.2
 go_upto_region 8 with (fail)
 have HT6 := Lib.hid (show Hp w (fun _ => False) _ [oEn eb vb bb ⟨8, pm⟩ 80 aw2s, Ob.box cb (.cells cL.toArray 36), Ob.box fb (.cells #[.int .i64 (-1), .int .i64 (-1), .int .u32 0] 42)] from ((HT5.out.set 2 rfl 0 (.int .i64 (-1))).set 2 rfl 1 (.int .i64 (-1))).set 2 rfl 2 (.int .u32 0))
 generalize ((w5.setCell ⟨fb, 0, none⟩ (.int .i64 (-1))).setCell ⟨fb, 1, none⟩ (.int .i64 (-1))).setCell ⟨fb, 2, none⟩ (.int .u32 0) = w6 at *
 clear f0 f1 f2 ff fl HT5
 have HH := Lib.hid HT6.out.drew
 refine wp_region_held_drew (S := fun w' => Hp w (fun _ => False) w' [oEn eb vb bb ⟨8, pm⟩ 80 aw2s, Ob.box cb (.cells cL.toArray 36), Ob.box fb (.cells #[.int .i64 (-1), .int .i64 (-1), .int .u32 0] 42)]) (by kernel_rfl) HH.out (fun hHeld => ?_)
 refine wpAnyH_take (i := 0) (oi := _) (v := ?_) rfl (by kernel_rfl) (by kernel_rfl) (by kernel_rfl) (fun _ _ _ h => h) (Or.inl ⟨by rfl, ?_⟩) (by assumption) ?_
 rotate_left
 ·(intro w hSw; have f0 := (box_cells hSw (i := 2) rfl).1 0; have f1 := (box_cells hSw (i := 2) rfl).1 1; have f2 := (box_cells hSw (i := 2) rfl).1 2; have fl := (box_cells hSw (i := 2) rfl).2.2; simp at f0 f1 f2; (try dsimp only at hSw); go_simp <;> rfl)
 simp only [Act.put, lz0, lz1, lz2, lz3, lz4, lz5]
 refine wpAnyH_take (i := 1) (oi := _) (v := ?_) rfl (by kernel_rfl) (by kernel_rfl) (by kernel_rfl) (fun _ _ _ h => h) (Or.inl ⟨by rfl, ?_⟩) (by assumption) ?_
 rotate_left
 ·(intro w hSw; (try dsimp only at hSw); go_simp <;> rfl)
 simp only [Act.put, lz0, lz1, lz2, lz3, lz4, lz5]
 refine wpAnyH_take (i := 2) (oi := _) (v := ?_) rfl (by kernel_rfl) (by kernel_rfl) (by kernel_rfl) (fun _ _ _ h => h) (Or.inl ⟨by rfl, ?_⟩) (by assumption) ?_
 rotate_left
 ·(intro w hSw; (try dsimp only at hSw); go_simp <;> rfl)
 simp only [Act.put, lz0, lz1, lz2, lz3, lz4, lz5]
 refine wpAnyH_take (i := 3) (oi := _) (v := ?_) rfl (by kernel_rfl) (by kernel_rfl) (by kernel_rfl) (fun _ _ _ h => h) (Or.inl ⟨by rfl, ?_⟩) (by assumption) ?_
 rotate_left
 ·(intro w hSw; (try dsimp only at hSw); go_simp <;> rfl)
 simp only [Act.put, lz0, lz1, lz2, lz3, lz4, lz5]
 refine wpAnyH_take (i := 4) (oi := _) (v := ?_) rfl (by kernel_rfl) (by kernel_rfl) (by kernel_rfl) (fun _ _ _ h => h) (Or.inl ⟨by rfl, ?_⟩) (by assumption) ?_
 rotate_left
 ·(intro w hSw; (try dsimp only at hSw); go_simp <;> rfl)
 simp only [Act.put, lz0, lz1, lz2, lz3, lz4, lz5]
 refine wpAnyH_take (i := 5) (oi := _) (v := ?_) rfl (by kernel_rfl) (by kernel_rfl) (by kernel_rfl) (fun _ _ _ h => h) (Or.inl ⟨by rfl, ?_⟩) (by assumption) ?_
 rotate_left
 ·(intro w hSw; have hel := en_lt hSw; (try dsimp only at hSw); go_simp <;> rfl)
 simp only [Act.put, lz0, lz1, lz2, lz3, lz4, lz5]
 refine wpAnyH_take (i := 6) (oi := _) (v := ?_) rfl (by kernel_rfl) (by kernel_rfl) (by kernel_rfl) (fun _ _ _ h => h) (Or.inl ⟨by rfl, ?_⟩) (by assumption) ?_
 rotate_left
 ·(intro w hSw; have hel := en_lt hSw; (try dsimp only at hSw); go_simp <;> rfl)
 simp only [Act.put, lz0, lz1, lz2, lz3, lz4, lz5]
 refine wpAnyH_take (i := 7) (oi := _) (v := _) rfl (by kernel_rfl) (by kernel_rfl) (by kernel_rfl) (fun _ _ _ h => h) (yieldsIf_load_mid (by rfl) _ _ rfl eb _ rfl cL _ (fun _ h => by rw [← HX.out.2.2.2.1]; exact env_range h) Tryz.underlying36 rfl HX.out.1) (by assumption) ?_
 simp only [Act.put, lz0, lz1, lz2, lz3, lz4, lz5]
 refine wpAnyH_take (i := 8) (oi := _) (v := _) rfl (by kernel_rfl) (by kernel_rfl) (by kernel_rfl) (fun _ _ _ h => h) (yieldsIf_load_mid (by rfl) _ _ rfl cb _ rfl cL _ (fun _ h => box_range (i := 1) h rfl) Tryz.underlying36 rfl HX.out.1) (by assumption) ?_
 simp only [Act.put, lz0, lz1, lz2, lz3, lz4, lz5]
 refine wpAnyH_take (i := 9) (oi := _) (v := .bool true) rfl (by kernel_rfl) (by kernel_rfl) (by kernel_rfl) (fun _ _ _ h => h) (yieldsIf_eql (by rfl) 36 _ _ _ rfl cL.toArray rfl rfl (by kernel_rfl) HX.out.2.2.2.2) (by assumption) ?_
 simp only [Act.put, lz0, lz1, lz2, lz3, lz4, lz5]
 refine wpAnyH_take (i := 10) (oi := _) (v := ?_) rfl (by kernel_rfl) (by kernel_rfl) (by kernel_rfl) (fun _ _ _ h => h) (Or.inl ⟨by rfl, ?_⟩) (by assumption) ?_
 rotate_left
 ·(intro w hSw; (try dsimp only at hSw); go_simp <;> rfl)
 simp only [Act.put, lz0, lz1, lz2, lz3, lz4, lz5]
 refine wpAnyH_take (i := 11) (oi := _) (v := ?_) rfl (by kernel_rfl) (by kernel_rfl) (by kernel_rfl) (fun _ _ _ h => h) (Or.inl ⟨by rfl, ?_⟩) (by assumption) ?_
 rotate_left
 ·(intro w hSw; (try dsimp only at hSw); go_simp <;> rfl)
 simp only [Act.put, lz0, lz1, lz2, lz3, lz4, lz5]
 refine wpAnyH_done (by kernel_rfl) ?_ _
 have HT7 := Lib.hid hHeld
 clear hHeld HH HT6
 generalize w6.drew = w7 at *
 go_wp2_with fail
 refine (HT7.out.act 0 rfl (enter_x 200 (-1) true (by decide))).mono ?_
 rw [show triedE (enterE 200 (-1) true) aw2s = (⟨13, 1602, 0⟩, aw3s) from Prod.ext aw3_f rfl]
 rintro e w8 ⟨he, T8⟩
 rw [show ((⟨13, 1602, 0⟩ : FaultS), aw3s).1.val = Value.agg #[.int .i64 13, .int .i64 1602, .int .u32 0] from rfl] at he
 subst he
 have HT8 := Lib.hid (show Hp w (fun _ => False) w8 [oEn eb vb bb ⟨8, pm⟩ 120 aw3s, Ob.box cb (.cells cL.toArray 36), Ob.box fb (.cells #[.int .i64 (-1), .int .i64 (-1), .int .u32 0] 42)] from T8)
 clear T8 HT7
 have f0 := (box_cells HT8.out (i := 2) rfl).1 0
 have f1 := (box_cells HT8.out (i := 2) rfl).1 1
 have f2 := (box_cells HT8.out (i := 2) rfl).1 2
 simp at f0 f1 f2
 have ff := (box_cells HT8.out (i := 2) rfl).2.1
 have fl := (box_cells HT8.out (i := 2) rfl).2.2
 go_upto_region 10 with (fail)
 have HT9 := Lib.hid (show Hp w (fun _ => False) _ [oEn eb vb bb ⟨8, pm⟩ 120 aw3s, Ob.box cb (.cells cL.toArray 36), Ob.box fb (.cells #[.int .i64 13, .int .i64 1602, .int .u32 0] 42)] from ((HT8.out.set 2 rfl 0 (.int .i64 13)).set 2 rfl 1 (.int .i64 1602)).set 2 rfl 2 (.int .u32 0))
 generalize ((w8.setCell ⟨fb, 0, none⟩ (.int .i64 13)).setCell ⟨fb, 1, none⟩ (.int .i64 1602)).setCell ⟨fb, 2, none⟩ (.int .u32 0) = w9 at *
 clear f0 f1 f2 ff fl HT8
 have f0 := (box_cells HT9.out (i := 2) rfl).1 0
 have f1 := (box_cells HT9.out (i := 2) rfl).1 1
 have f2 := (box_cells HT9.out (i := 2) rfl).1 2
 simp at f0 f1 f2
 have fl := (box_cells HT9.out (i := 2) rfl).2.2
 have hel := en_lt HT9.out
 have k70 := cell_at (k := 70) (en_heap HT9.out)
 have kf := fun k => free_at (k := k) (en_heap HT9.out)
 rw [show (envCells aw3s.C vb bb)[70]? = some (.int .u16 (aw3s.C.il : Nat)) from rfl] at k70
 go_upto_region 12 with (fail)
 have hck := (HT9.out.cpu 0 rfl).1
 have HT10 := Lib.hid (show Hp w (fun _ => False) (w9.setCell ⟨eb, 70, none⟩ (.int .u16 0)) [oEn eb vb bb ⟨8, pm⟩ 120 aw4s, Ob.box cb (.cells cL.toArray 36), Ob.box fb (.cells #[.int .i64 13, .int .i64 1602, .int .u32 0] 42)] from HT9.out.setC 0 rfl 70 _ (env_il aw3s.C vb bb) ⟨hck.r, hck.eip, hck.flags, hck.seg, hck.cr0, hck.cr2, hck.cr3, hck.gb, hck.gl, hck.ib, by decide, hck.tr⟩)
 change Code.wp _ _ _ _ (w9.setCell ⟨eb, 70, none⟩ (.int .u16 0))
 generalize w9.setCell ⟨eb, 70, none⟩ (.int .u16 0) = w10 at *
 clear f0 f1 f2 fl hel k70 kf hck HT9
 go_wp2_with fail
 refine (HT10.out.act 0 rfl (fault_x (N := 320) ⟨6, -1, 0⟩ 5 (s1 := (faultN 5 ⟨6, -1, 0⟩ aw4s).2) (Prod.ext aw4_f rfl) (by decide) (by decide) (by decide))).mono ?_
 rintro e w11 ⟨rfl, T11⟩
 have HT11 := Lib.hid (show Hp w (fun _ => False) w11 [oEn eb vb bb ⟨8, pm⟩ 320 (faultN 5 ⟨6, -1, 0⟩ aw4s).2, Ob.box cb (.cells cL.toArray 36), Ob.box fb (.cells #[.int .i64 13, .int .i64 1602, .int .u32 0] 42)] from T11)
 clear T11 HT10
 have hd := aw4_d
 generalize (faultN 5 ⟨6, -1, 0⟩ aw4s).2 = s5 at *
 have hel := en_lt HT11.out
 have k82 := cell_at (k := 82) (en_heap HT11.out)
 rw [show (envCells s5.C vb bb)[82]? = some (.bool s5.C.dead) from rfl, hd] at k82
 go_wp2_with fail
 go_returns
 exact ⟨rfl, HT11.out.below⟩
end
end Go.Proofs.YtmpcafdgkbpneaaGreat

