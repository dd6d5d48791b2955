/- 'drawloom/drawloomlaw16.VmemNil' answers true for every input. Conditions: none. -/
import Derived.Test.YtknokiadbkgmaaaFrame
import Derived.Test.YtknokiadbkgmaaaVmNil
import Derived.Test.YtknokiadbkgmaaaVmIn
namespace Go.Proofs.Ytknokiadbkgmaaa.vmemNil
open Go.ChangeShapes Go.WideShapes Go.ChangeAt Go.RowKit
set_option linter.unusedVariables false

open Go.MapKept
set_option maxRecDepth 100000 in
theorem open_op {w : World} {r0 : Reach} {base : Nat} {v : Value} (h : Value.okWide Try.prog w r0 base 60 v) :
    ∃ (k s : Int) (o : Nat) (z x : Int), v = .agg #[.int .i64 k, .int .i64 s, .int .u32 (o : Nat), .int .i64 z, .int .u32 x] ∧ o < 4294967296 := by
  obtain ⟨cs, rfl, hlen, hc⟩ := arg_agg (ts := [3, 3, 23, 3, 23]) Try.underlying60 (by kernel_rfl) (by kernel_rfl) h
  match cs, hlen, hc with
  | [c0, c1, c2, c3, c4], _, hc =>
    obtain ⟨k, rfl, _, _⟩ := cell_int Try.underlying3 (hc 0 c0 3 rfl rfl)
    obtain ⟨s, rfl, _, _⟩ := cell_int Try.underlying3 (hc 1 c1 3 rfl rfl)
    obtain ⟨o, rfl, ho⟩ := cell_n32 (cell_int Try.underlying23 (hc 2 c2 23 rfl rfl))
    obtain ⟨z, rfl, _, _⟩ := cell_int Try.underlying3 (hc 3 c3 3 rfl rfl)
    obtain ⟨x, rfl, _, _⟩ := cell_int Try.underlying23 (hc 4 c4 23 rfl rfl)
    exact ⟨k, s, o, z, x, rfl, ho⟩
set_option maxRecDepth 100000 in
set_option maxHeartbeats 8000000 in
theorem walk (C : CpuS) (k s : Int) (o : Nat) (z x : Int) (w : World) :
    Calls Try.prog 7 #[.agg C.cells.toArray, .agg #[.int .i64 k, .int .i64 s, .int .u32 (o : Nat), .int .i64 z, .int .u32 x]] w fun e w' => e = .returned (.bool true) ∧ Below w.heap.size w w' := by
  generalize C.cells.toArray = cs
  go_enter Try.func7, Try.ntmps7
  go_upto_region 1 with (fail)
  have hn : NB w ((w.alloc (.cells cs 38)).alloc (opO k s o z x)) [(w.heap.size + 1, opO k s o z x), (w.heap.size, .cells cs 38)] := by
    have h := ((NB.start w).alloc (.cells cs 38)).alloc (opO k s o z x)
    rw [World.size_alloc] at h
    exact h
  have HN := Lib.hid hn
  clear hn
  change Code.wp _ _ _ _ ((w.alloc (.cells cs 38)).alloc (opO k s o z x))
  generalize (w.alloc (.cells cs 38)).alloc (opO k s o z x) = w0 at *
  go_wp2_with fail
  refine (awake16 _).mono ?_
  rintro e w1 ⟨rfl, hb⟩
  have HN1 := Lib.hid (HN.out.below hb)
  clear hb HN
  go_wp2_with fail
  refine (vnew_nil _ _).mono ?_
  rintro e w2 ⟨rfl, rfl⟩
  obtain ⟨o1, o2, o3⟩ := op_cells (HN1.out.get (g := w.heap.size + 1) (o := opO k s o z x) (by simp))
  have ol := heap_lt (HN1.out.get (g := w.heap.size + 1) (o := opO k s o z x) (by simp))
  go_wp2_with fail
  refine (load_z (.pointer none) (.pointer (some ⟨w.heap.size, 0, none⟩)) s o z (gives_nil _ _) _).mono ?_
  rintro e w2 ⟨rfl, hb⟩
  have HM := Lib.hid ((HN1.out.below hb).alloc badO)
  clear hb o1 o2 o3 ol HN1
  go_upto_region 6 with (fail)
  change Code.wp _ _ _ _ (w2.alloc badO)
  generalize w2.alloc badO = w2x at *
  generalize w2.heap.size = g9 at *
  have HN2 := Lib.hid HM.out
  clear HM
  obtain ⟨o1, o2, o3⟩ := op_cells (HN2.out.get (g := w.heap.size + 1) (o := opO k s o z x) (by simp))
  have ol := heap_lt (HN2.out.get (g := w.heap.size + 1) (o := opO k s o z x) (by simp))
  go_wp2_with fail
  refine (sys_z (.pointer none) (.pointer (some ⟨w.heap.size, 0, none⟩)) o z (gives_nil _ _) _).mono ?_
  rintro e w3 ⟨rfl, hb⟩
  have HM := Lib.hid ((HN2.out.below hb).alloc badO)
  clear hb o1 o2 o3 ol HN2
  go_upto_region 7 with (fail)
  change Code.wp _ _ _ _ (w3.alloc badO)
  generalize w3.alloc badO = w3x at *
  generalize w3.heap.size = g11 at *
  have HN3 := Lib.hid HM.out
  clear HM
  obtain ⟨o1, o2, o3⟩ := op_cells (HN3.out.get (g := w.heap.size + 1) (o := opO k s o z x) (by simp))
  have ol := heap_lt (HN3.out.get (g := w.heap.size + 1) (o := opO k s o z x) (by simp))
  go_wp2_with fail
  refine (code_z (.pointer none) (.pointer (some ⟨w.heap.size, 0, none⟩)) o (gives_nil _ _) _).mono ?_
  rintro e w4 ⟨rfl, hb⟩
  have HM := Lib.hid ((HN3.out.below hb).alloc badO)
  clear hb o1 o2 o3 ol HN3
  go_upto_region 8 with (fail)
  change Code.wp _ _ _ _ (w4.alloc badO)
  generalize w4.alloc badO = w4x at *
  generalize w4.heap.size = g14 at *
  have HN4 := Lib.hid HM.out
  clear HM
  obtain ⟨o1, o2, o3⟩ := op_cells (HN4.out.get (g := w.heap.size + 1) (o := opO k s o z x) (by simp))
  have ol := heap_lt (HN4.out.get (g := w.heap.size + 1) (o := opO k s o z x) (by simp))
  go_wp2_with fail
  refine (vflush_nil _).mono ?_
  rintro e w5 ⟨rfl, rfl⟩
  go_wp2_with fail
  refine (vdrop_nil _ _).mono ?_
  rintro e w5 ⟨rfl, rfl⟩
  have HN5 := Lib.hid (HN4.out.alloc badO)
  clear o1 o2 o3 ol HN4
  go_upto_region 11 with (fail)
  change Code.wp _ _ _ _ (w4x.alloc badO)
  generalize w4x.alloc badO = w5x at *
  generalize w4x.heap.size = g15 at *
  refine nil_r11 (cb := w.heap.size) (W := w5x) (go := w.heap.size + 1) (g9 := g9) (g11 := g11) (g14 := g14) (g15 := g15) (k := k) (seg := s) (off := o) (size := z) (v := x) ⟨HN5.out.get (by simp), HN5.out.get (by simp), HN5.out.get (by simp), HN5.out.get (by simp), HN5.out.get (by simp)⟩ ?_
  intro w6 v62 v63 v64 v65 v66 v67 v68 v69 v70 v71 v72 v73 v74 v75 v76 v77 v78 v79 v80 v81 v82 v83 v84 v85 v86 v87 v88 v89 v90 v91 v92 v93 v94 v95 v96 v97 v98 v99 v100 v101 v102 v103 v104 v105 v106 v107 v108 v109 v110 v111 v112 v113 v114 v115 v116 v117 v118 v119 v120 v121 v122 v123 hN hB
  have HN6 := Lib.hid (HN5.out.below hB)
  clear hN hB HN5
  go_wp2_with fail
  refine (both_any w6 16 none 0 0 (fun _ => 0) (fun _ => 0) (.inl rfl) none 0 0 (fun _ => 0) (.inl rfl) (by decide) (by decide)).mono ?_
  rintro e w7 ⟨b, S, b', S', rfl, T⟩
  have T1 := Lib.hid (tri_two T)
  clear T
  go_wp2_with fail
  refine (tri_vnew T1.out Nothing.local Nothing.local (Wide.both _ _ _ _ _ _) 3 (by decide) 3 rfl).mono ?_
  rintro e w8 ⟨vb, rfl, T2⟩
  have HN8 := Lib.hid (HN6.out.below T2.B)
  clear T1 T2 HN6
  obtain ⟨o1, o2, o3⟩ := op_cells (HN8.out.get (g := w.heap.size + 1) (o := opO k s o z x) (by simp))
  have ol := heap_lt (HN8.out.get (g := w.heap.size + 1) (o := opO k s o z x) (by simp))
  go_wp2_with fail
  refine (load_z (.pointer (some ⟨vb, 0, none⟩)) (.pointer none) s o z (gives_nilc _ _) _).mono ?_
  rintro e w9 ⟨rfl, hb⟩
  have HM := Lib.hid (HN8.out.below hb)
  have hx := HM.out.get (g := g9) (o := badO) (by simp)
  obtain ⟨x0, x1, x2⟩ := bad_cells hx
  have xf : ∀ j, w9.frozen? ⟨g9, j, none⟩ = false := fun j => free_at hx
  have xl := heap_lt hx
  have HS := Lib.hid (HM.out.same (g := g9) (o := badO) (by simp) (keeps_sets3 w9 g9 (.int .i64 13) (.int .i64 0) (.int .u32 0)) (block_sets3 hx _ _ _))
  clear hb o1 o2 o3 ol HN8 hx HM
  go_upto_region 16 with (fail)
  change Code.wp _ _ _ _ (sets3 w9 g9 (.int .i64 13) (.int .i64 0) (.int .u32 0))
  clear x0 x1 x2 xf xl
  generalize sets3 w9 g9 (.int .i64 13) (.int .i64 0) (.int .u32 0) = w9x at *
  have HN9 := Lib.hid HS.out
  clear HS
  obtain ⟨o1, o2, o3⟩ := op_cells (HN9.out.get (g := w.heap.size + 1) (o := opO k s o z x) (by simp))
  have ol := heap_lt (HN9.out.get (g := w.heap.size + 1) (o := opO k s o z x) (by simp))
  go_wp2_with fail
  refine (sys_z (.pointer (some ⟨vb, 0, none⟩)) (.pointer none) o z (gives_nilc _ _) _).mono ?_
  rintro e w10 ⟨rfl, hb⟩
  have HM := Lib.hid (HN9.out.below hb)
  have hx := HM.out.get (g := g11) (o := badO) (by simp)
  obtain ⟨x0, x1, x2⟩ := bad_cells hx
  have xf : ∀ j, w10.frozen? ⟨g11, j, none⟩ = false := fun j => free_at hx
  have xl := heap_lt hx
  have HS := Lib.hid (HM.out.same (g := g11) (o := badO) (by simp) (keeps_sets3 w10 g11 (.int .i64 13) (.int .i64 0) (.int .u32 0)) (block_sets3 hx _ _ _))
  clear hb o1 o2 o3 ol HN9 hx HM
  go_upto_region 17 with (fail)
  change Code.wp _ _ _ _ (sets3 w10 g11 (.int .i64 13) (.int .i64 0) (.int .u32 0))
  clear x0 x1 x2 xf xl
  generalize sets3 w10 g11 (.int .i64 13) (.int .i64 0) (.int .u32 0) = w10x at *
  have HN10 := Lib.hid HS.out
  clear HS
  obtain ⟨o1, o2, o3⟩ := op_cells (HN10.out.get (g := w.heap.size + 1) (o := opO k s o z x) (by simp))
  have ol := heap_lt (HN10.out.get (g := w.heap.size + 1) (o := opO k s o z x) (by simp))
  go_wp2_with fail
  refine (code_z (.pointer (some ⟨vb, 0, none⟩)) (.pointer none) o (gives_nilc _ _) _).mono ?_
  rintro e w11 ⟨rfl, hb⟩
  have HM := Lib.hid (HN10.out.below hb)
  have hx := HM.out.get (g := g14) (o := badO) (by simp)
  obtain ⟨x0, x1, x2⟩ := bad_cells hx
  have xf : ∀ j, w11.frozen? ⟨g14, j, none⟩ = false := fun j => free_at hx
  have xl := heap_lt hx
  have HS := Lib.hid (HM.out.same (g := g14) (o := badO) (by simp) (keeps_sets3 w11 g14 (.int .i64 13) (.int .i64 0) (.int .u32 0)) (block_sets3 hx _ _ _))
  clear hb o1 o2 o3 ol HN10 hx HM
  go_upto_region 18 with (fail)
  change Code.wp _ _ _ _ (sets3 w11 g14 (.int .i64 13) (.int .i64 0) (.int .u32 0))
  clear x0 x1 x2 xf xl
  generalize sets3 w11 g14 (.int .i64 13) (.int .i64 0) (.int .u32 0) = w11x at *
  have HN11 := Lib.hid HS.out
  clear HS
  refine nil_r18 (cb := w.heap.size) (vb := vb) (W := w11x) (go := w.heap.size + 1) (g9 := g9) (g11 := g11) (g14 := g14) (g15 := g15) (k := k) (seg := s) (off := o) (size := z) (v := x) ⟨HN11.out.get (by simp), HN11.out.get (by simp), HN11.out.get (by simp), HN11.out.get (by simp), HN11.out.get (by simp)⟩ ?_
  intro w20 v162 v163 v164 v165 v166 v167 v168 v169 v170 v171 v172 v173 v174 v175 v176 v177 v178 v179 v180 v181 v182 v183 v184 v185 v186 v187 v188 v189 v190 v191 v192 v193 v194 v195 v196 v197 v198 v199 v200 v201 v202 v203 v204 v205 v206 v207 v208 v209 v210 v211 v212 v213 v214 v215 v216 v217 v218 v219 v220 v221 v222 v223 v224 v225 v226 v227 v228 v229 v230 v231 v232 v233 v234 v235 v236 v237 hB
  go_wp2_with fail
  go_ret
  exact ⟨rfl, (HN11.out.below hB).1⟩

set_option maxRecDepth 100000 in
theorem lifted (os : Os) (started : os.Started) (H : Type) (enc : TypeId × Value → H) :
    ReturnsInHanded {} Try.checked os 7 .any (Rows.vmemNilSpec.pre6 enc Try.prog Try.f7 Rows.vmemNilRow.domain false) (Rows.vmemNilSpec.post enc Try.prog Try.f7 false true false false) := by
  refine returnsInHanded_of_change (C := Try.checked) own started (by kernel_rfl) Try.func7
    (ChangeSpec.witness6 (enc := enc) (C := Try.checked) false ⟨#[], #[.agg #[.int .u32 0, .int .u32 0, .int .u32 0, .int .u32 0, .int .u32 0, .int .u32 0, .int .u32 0, .int .u32 0, .int .u32 0, .int .u32 0, .int .u16 0, .bool false, .int .u32 0, .int .u32 0, .int .i64 0, .bool false, .int .i64 0, .bool false, .bool false, .int .u16 0, .bool false, .int .u32 0, .int .u32 0, .int .i64 0, .bool false, .int .i64 0, .bool false, .bool false, .int .u16 0, .bool false, .int .u32 0, .int .u32 0, .int .i64 0, .bool false, .int .i64 0, .bool false, .bool false, .int .u16 0, .bool false, .int .u32 0, .int .u32 0, .int .i64 0, .bool false, .int .i64 0, .bool false, .bool false, .int .u16 0, .bool false, .int .u32 0, .int .u32 0, .int .i64 0, .bool false, .int .i64 0, .bool false, .bool false, .int .u16 0, .bool false, .int .u32 0, .int .u32 0, .int .i64 0, .bool false, .int .i64 0, .bool false, .bool false, .int .u32 0, .int .u32 0, .int .u32 0, .int .u32 0, .int .u16 0, .int .u32 0, .int .u16 0, .int .u16 0, .bool false, .int .u32 0, .int .u32 0, .int .i64 0, .bool false, .int .i64 0, .bool false, .bool false, .bool false, .bool false, .bool false], .agg #[.int .i64 0, .int .i64 0, .int .u32 0, .int .i64 0, .int .u32 0]], []⟩ 8 (by kernel_rfl) (by kernel_rfl) (by kernel_rfl) (by kernel_rfl)) ?_
  intro W base args ds gs before hval0 hW hcnd _
  have hval : ∀ (j : Nat) t v, Try.f7.params[j]? = some t → args[j]? = some v → Value.okWide Try.prog W .any base t v := hval0
  have hW' := hW
  obtain ⟨p, q, hA0, hV, rfl, hfz, hnd⟩ := hW
  have hA : DataW.TrodAll enc Try.prog W 0 (fun _ => true) true Try.f7.params.toList args.toList ds p := hA0
  rw [Try.params7] at hA hval
  obtain ⟨v0, vs0, d0, ds0, p0, q0, hargs, rfl, rfl, h0, r0⟩ := trodAll_cons hA
  obtain ⟨v1, vs1, d1, ds1, p1, q1, rfl, rfl, rfl, h1, r1⟩ := trodAll_cons r0
  obtain ⟨rfl, rfl, rfl⟩ := trodAll_nil r1
  obtain rfl : args = #[v0, v1] := by cases args; simp_all
  clear hA0 hval0
  obtain ⟨C0, _, rfl⟩ := open_cpu (hval 0 38 v0 rfl rfl)
  obtain ⟨k1, s1, o1, z1, x1, rfl, _⟩ := open_op (hval 1 60 v1 rfl rfl)
  exact law_end (by kernel_rfl) hW' rfl (by kernel_rfl) Try.underlying4 rfl rfl (walk C0 k1 s1 o1 z1 x1 W)

theorem proved : Rows.VmemNilSaid :=
  OpenClaim.holds_of_wide 7 Try.f7 rfl rfl rfl rfl rfl rfl rfl ⟨rfl, rfl, rfl, rfl, rfl⟩ rfl rfl rfl rfl rfl (by kernel_rfl) Try.func7 (by kernel_rfl)
    (of_decide_eq_true (by kernel_rfl)) (by unfold Func.isWrapper; first | (rw [if_pos (by decide +kernel)]; kernel_rfl) | (rw [if_neg (by decide +kernel)]; exact ⟨rfl, rfl⟩))
    (fun os started H enc _ => lifted os started H enc)
#print axioms proved
end Go.Proofs.Ytknokiadbkgmaaa.vmemNil
