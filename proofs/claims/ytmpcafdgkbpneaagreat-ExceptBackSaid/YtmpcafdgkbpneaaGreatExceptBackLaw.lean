/- 'drawloom/drawloomlaw18.ExceptBack' answers true for every input. Conditions: none. -/
import Derived.Test.YtmpcafdgkbpneaaGreatS0
import Derived.Test.YtmpcafdgkbpneaaGreatExBa0
import Derived.Test.YtmpcafdgkbpneaaGreatExBa1
import Derived.Test.YtmpcafdgkbpneaaGreatTb
namespace Go.Proofs.YtmpcafdgkbpneaaGreat.exceptBack
open Go.ChangeShapes Go.WideShapes Go.ChangeAt Go.RowKit
set_option linter.unusedVariables false

open Go.MapKept
theorem arg_arr {P : Program} {w : World} {r : Reach} {base n : Nat} {t e : TypeId} {v : Value} {ts : List TypeId} (ht : P.underlying t = some (.array n e)) (hc : P.cellTypes P.depth t = some ts) (hn : P.cellsOf t = ts.length) (h : Value.okWide P w r base t v) :
    ∃ cs : List Value, v = .agg cs.toArray ∧ cs.length = ts.length ∧ ∀ (i : Nat) (c : Value) (u : TypeId), cs[i]? = some c → ts[i]? = some u → Cell.okWide P w r base u c := by
 simp only [Value.okWide, ht] at h
 obtain ⟨cs, rfl, hsz, ts', hts, _, hall⟩ := h
 rw [hc] at hts
 obtain rfl := Option.some.inj hts
 refine ⟨cs.toList, by simp, by simp [hsz, hn], fun i c u hi hu => ?_⟩
 have hi' : cs[i]? = some c := by simpa using hi
 obtain ⟨u', hu', hok⟩ := hall i c hi'
 have hlt : i < ts.length := (List.getElem?_eq_some_iff.1 hu).1
 rw [Nat.mod_eq_of_lt hlt, hu] at hu'
 obtain rfl := Option.some.inj hu'
 exact hok
set_option maxRecDepth 100000 in
theorem open_regs {w : World} {r0 : Reach} {base : Nat} {v : Value} (h : Value.okWide Tryz.prog w r0 base 26 v) : ∃ g : Nat → Nat, (∀ i, g i < 4294967296) ∧ v = .agg (regCells g).toArray := by
 obtain ⟨cs, rfl, hlen, hc⟩ := arg_arr (ts := [22, 22, 22, 22, 22, 22, 22, 22]) Tryz.underlying26 (by kernel_rfl) (by kernel_rfl) h
 match cs, hlen, hc with
 | [c0, c1, c2, c3, c4, c5, c6, c7], _, hc =>
  obtain ⟨x0, rfl, y0⟩ := cell_n32 (cell_int Tryz.underlying22 (hc 0 c0 22 rfl rfl))
  obtain ⟨x1, rfl, y1⟩ := cell_n32 (cell_int Tryz.underlying22 (hc 1 c1 22 rfl rfl))
  obtain ⟨x2, rfl, y2⟩ := cell_n32 (cell_int Tryz.underlying22 (hc 2 c2 22 rfl rfl))
  obtain ⟨x3, rfl, y3⟩ := cell_n32 (cell_int Tryz.underlying22 (hc 3 c3 22 rfl rfl))
  obtain ⟨x4, rfl, y4⟩ := cell_n32 (cell_int Tryz.underlying22 (hc 4 c4 22 rfl rfl))
  obtain ⟨x5, rfl, y5⟩ := cell_n32 (cell_int Tryz.underlying22 (hc 5 c5 22 rfl rfl))
  obtain ⟨x6, rfl, y6⟩ := cell_n32 (cell_int Tryz.underlying22 (hc 6 c6 22 rfl rfl))
  obtain ⟨x7, rfl, y7⟩ := cell_n32 (cell_int Tryz.underlying22 (hc 7 c7 22 rfl rfl))
  refine ⟨fun i => match i with | 0 => x0 | 1 => x1 | 2 => x2 | 3 => x3 | 4 => x4 | 5 => x5 | 6 => x6 | 7 => x7 | _ => 0, fun i => ?_, rfl⟩
  match i with
  | 0 => exact y0
  | 1 => exact y1
  | 2 => exact y2
  | 3 => exact y3
  | 4 => exact y4
  | 5 => exact y5
  | 6 => exact y6
  | 7 => exact y7
  | n + 8 => exact (show 0 < 4294967296 by decide)
theorem walk (vec : Int) (q1 : -9223372036854775808 ≤ vec) (q2 : vec ≤ 9223372036854775807) (outer trap : Bool) (g : Nat → Nat) (hg : ∀ i, g i < 4294967296) (fl : Nat) (hfl : fl < 4294967296) (P : Nat) (hP : P < 4294967296) (w : World) :
    Calls Tryz.prog 5 #[.int .i64 vec, .bool outer, .bool trap, .agg (regCells g).toArray, .int .u32 (fl : Nat), .int .u32 (P : Nat)] w fun e w' => e = .returned (.bool true) ∧ Below w.heap.size w w' := by
 cases outer
 ·exact back_0 trap vec q1 q2 g hg fl hfl P hP w
 ·exact back_1 trap vec q1 q2 g hg fl hfl P hP w

set_option maxRecDepth 100000 in
theorem lifted (os : Os) (started : os.Started) (H : Type) (enc : TypeId × Value → H) :
    ReturnsInHanded {} Tryz.checked os 5 .any (Rows.exceptBackSpec.pre6 enc Tryz.prog Tryz.f5 Rows.exceptBackRow.domain false) (Rows.exceptBackSpec.post enc Tryz.prog Tryz.f5 false true false false) := by
 refine returnsInHanded_of_change (C := Tryz.checked) own started (by kernel_rfl) Tryz.func5
  (ChangeSpec.witness6 (enc := enc) (C := Tryz.checked) false ⟨#[], #[.int .i64 0, .bool false, .bool false, .agg #[.int .u32 0, .int .u32 0, .int .u32 0, .int .u32 0, .int .u32 0, .int .u32 0, .int .u32 0, .int .u32 0], .int .u32 0, .int .u32 0], []⟩ 8 (by kernel_rfl) (by kernel_rfl) (by kernel_rfl) (by kernel_rfl)) ?_
 intro W base args ds gs before hval0 hW hcnd _
 have hval : ∀ (j : Nat) t v, Tryz.f5.params[j]? = some t → args[j]? = some v → Value.okWide Tryz.prog W .any base t v := hval0
 have hW' := hW
 obtain ⟨p, q, hA0, hV, rfl, hfz, hnd⟩ := hW
 have hA : DataW.TrodAll enc Tryz.prog W 0 (fun _ => true) true Tryz.f5.params.toList args.toList ds p := hA0
 rw [Tryz.params5] at hA hval
 obtain ⟨v0, vs0, d0, ds0, p0, q0, hargs, rfl, rfl, h0, r0⟩ := trodAll_cons hA
 obtain ⟨v1, vs1, d1, ds1, p1, q1, rfl, rfl, rfl, h1, r1⟩ := trodAll_cons r0
 obtain ⟨v2, vs2, d2, ds2, p2, q2, rfl, rfl, rfl, h2, r2⟩ := trodAll_cons r1
 obtain ⟨v3, vs3, d3, ds3, p3, q3, rfl, rfl, rfl, h3, r3⟩ := trodAll_cons r2
 obtain ⟨v4, vs4, d4, ds4, p4, q4, rfl, rfl, rfl, h4, r4⟩ := trodAll_cons r3
 obtain ⟨v5, vs5, d5, ds5, p5, q5, rfl, rfl, rfl, h5, r5⟩ := trodAll_cons r4
 obtain ⟨rfl, rfl, rfl⟩ := trodAll_nil r5
 obtain rfl : args = #[v0, v1, v2, v3, v4, v5] := by cases args; simp_all
 clear hA0 hval0
 obtain ⟨a0, rfl, l0, u0⟩ := arg_int Tryz.underlying3 (hval 0 3 v0 rfl rfl)
 obtain ⟨a1, rfl⟩ := arg_bool Tryz.underlying4 (hval 1 4 v1 rfl rfl)
 obtain ⟨a2, rfl⟩ := arg_bool Tryz.underlying4 (hval 2 4 v2 rfl rfl)
 obtain ⟨g3, hg3, rfl⟩ := open_regs (hval 3 26 v3 rfl rfl)
 obtain ⟨f4, rfl, hf4⟩ := cell_n32 (arg_int Tryz.underlying22 (hval 4 22 v4 rfl rfl))
 obtain ⟨f5, rfl, hf5⟩ := cell_n32 (arg_int Tryz.underlying22 (hval 5 22 v5 rfl rfl))
 exact law_end (by kernel_rfl) hW' rfl (by kernel_rfl) Tryz.underlying4 rfl rfl (walk a0 l0 u0 a1 a2 g3 hg3 f4 hf4 f5 hf5 W)

theorem proved : Rows.ExceptBackSaid :=
 OpenClaim.holds_of_wide 5 Tryz.f5 rfl rfl rfl rfl rfl rfl rfl ⟨rfl, rfl, rfl, rfl, rfl⟩ rfl rfl rfl rfl rfl (by kernel_rfl) Tryz.func5 (by kernel_rfl)
  (of_decide_eq_true (by kernel_rfl)) (by unfold Func.isWrapper; first | (rw [if_pos (by decide +kernel)]; kernel_rfl) | (rw [if_neg (by decide +kernel)]; exact ⟨rfl, rfl⟩))
  (fun os started H enc _ => lifted os started H enc)
#print axioms proved
end Go.Proofs.YtmpcafdgkbpneaaGreat.exceptBack
