/- tlb: Find, its end. -/
import Derived.Test.YthogfhejfnmdkaaTlbC1
namespace Go.Proofs.Ythogfhejfnmdkaa
open Go.RowKit Go.MapKept
set_option linter.unusedVariables false
section
variable {w we : World} {t rb mb places n n' gw gr gk gx : Nat} {S S' : Nat → Prop} {ov ov' : Value} {cnt' : Nat} {all' : PKey → Option Ent} {order' : List PKey} {R' : RS} {K : PKey}
set_option maxRecDepth 20000 in
set_option maxHeartbeats 4000000 in
/-- What was found is handed back. -/
theorem find_p23 {fr pd pt : Nat} {xw xu : Bool} {cd : Int} (hM : Mid w we t rb mb S ov places n gw gr gk gx K ⟨fr, pd, pt, xw, xu⟩ S' ov' cnt' all' order' R') (hn : n ≤ n') {u0 u1 u2 u3 u4 u5 u6 u7 u9 u10 u11 u12 u13 u14 u15 u19 u20 u21 u22 u23 u24 u25 u26 u27 u28 u29 u30 u31 u32 u33 u34 u35 u36 u37 u38 u39 u40 u41 u42 u43 u44 u45 u46 u47 u48 u49 u50 u51 u52 u53 u54 u55 u56 u57 u58 u59 u60 u61 u62 u63 u64 u65 u66 u67 u68 u69 u70 u71 u72 u73 u74 u75 u76 u77 u78 u79 u80 u81 u82 u83 u84 u85 u86 u87 u88 u89 u90 u91 u92 u93 u94 u95 u96 u97 u98 u99 u100 u101 u102 u103 u104 u105 u106 u107 u108 u109 u110 u111 u112 u113 u114 u115 u116 u117 u118 u119 u120 u121 u122 u123 u124 u125 u126 u127 u128 u129 u130 u131 u132 u133 u134 u135 u136 u137 u138 u139 u140 u141 u142 u143 u144 u145 u146 u147 u148 u149 u150 u151 u152 u153 u154 u155 u156 u157 u158 u159 u160 u161 u162 u163 u164 u165 u166 u167 u168 : Value} {KK : Act → World → Prop}
    (hK : ∀ a w1, Code.wp Try.prog (tl Try.f13 23) (bodyPost Try.prog Try.f13 (FindPost w t rb mb S ov places n' (⟨fr, pd, pt, xw, xu⟩, cd, R'))) a w1 → KK a w1) :
    Code.wp Try.prog (rg Try.f13 23) (Exit.then KK (bodyPost Try.prog Try.f13 (FindPost w t rb mb S ov places n' (⟨fr, pd, pt, xw, xu⟩, cd, R'))))
      ⟨#[u0, u1, u2, u3, u4, u5, u6, u7, .pointer (some ⟨gr, 0, none⟩), u9, u10, u11, u12, u13, u14, u15, .pointer (some ⟨gx, 0, none⟩), .int .i64 cd, .int .i64 0, u19, u20, u21, u22, u23, u24, u25, u26, u27, u28, u29, u30, u31, u32, u33, u34, u35, u36, u37, u38, u39, u40, u41, u42, u43, u44, u45, u46, u47, u48, u49, u50, u51, u52, u53, u54, u55, u56, u57, u58, u59, u60, u61, u62, u63, u64, u65, u66, u67, u68, u69, u70, u71, u72, u73, u74, u75, u76, u77, u78, u79, u80, u81, u82, u83, u84, u85, u86, u87, u88, u89, u90, u91, u92, u93, u94, u95, u96, u97, u98, u99, u100, u101, u102, u103, u104, u105, u106, u107, u108, u109, u110, u111, u112, u113, u114, u115, u116, u117, u118, u119, u120, u121, u122, u123, u124, u125, u126, u127, u128, u129, u130, u131, u132, u133, u134, u135, u136, u137, u138, u139, u140, u141, u142, u143, u144, u145, u146, u147, u148, u149, u150, u151, u152, u153, u154, u155, u156, u157, u158, u159, u160, u161, u162, u163, u164, u165, u166, u167, u168], []⟩ we := by
  have HCS := Lib.hid (cell_sets hM.L.res (.int .u32 (fr : Nat)) (.int .u32 (pd : Nat)) (.int .u32 (pt : Nat)) (.bool xw) (.bool xu))
  have HFin := Lib.hid (hM.fin hn (.int .u32 (fr : Nat)) (.int .u32 (pd : Nat)) (.int .u32 (pt : Nat)) (.bool xw) (.bool xu))
  obtain ⟨-, -, ⟨x0, x1, x2, x3, x4⟩, xf, -, xl, -⟩ := hM.L.facts
  obtain ⟨v0, v1, v2, v3, v4, vl⟩ := hM.xf
  clear hM
  conv => arg 2; whnf
  conv at hK => enter [a, w1, 1, 2]; whnf
  go_wp2_with fail
  change bodyPost _ _ _ _ _ (sets5 we gr (.int .u32 (fr : Nat)) (.int .u32 (pd : Nat)) (.int .u32 (pt : Nat)) (.bool xw) (.bool xu))
  obtain ⟨r0, r1, r2, r3, r4⟩ := HCS.out
  clear x0 x1 x2 x3 x4 v0 v1 v2 v3 v4 xf xl vl HCS
  generalize sets5 we gr (.int .u32 (fr : Nat)) (.int .u32 (pd : Nat)) (.int .u32 (pt : Nat)) (.bool xw) (.bool xu) = Wf at *
  refine bodyPost_ret (v := .tuple #[.agg #[.int .u32 (fr : Nat), .int .u32 (pd : Nat), .int .u32 (pt : Nat), .bool xw, .bool xu], .int .i64 cd, .int .i64 0]) (by simp [results, Try.results13, go_sem, r0, r1, r2, r3, r4]) rfl ?_
  exact ⟨rfl, HFin.out⟩
end
end Go.Proofs.Ythogfhejfnmdkaa
