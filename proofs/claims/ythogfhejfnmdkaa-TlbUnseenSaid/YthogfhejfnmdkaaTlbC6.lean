/- tlb: Find, the walk through memory. -/
import Derived.Test.YthogfhejfnmdkaaTlbC5
namespace Go.Proofs.Ythogfhejfnmdkaa
open Go.RowKit Go.MapKept
set_option linter.unusedVariables false
section
variable {w W : World} {t rb mb places gw gr gk cnt cnt0 : Nat} {S : Nat → Prop} {ov : Value} {all all0 : PKey → Option Ent} {order : List PKey} {R : RS} {K : PKey} {lin : Nat}
set_option maxRecDepth 20000 in
set_option maxHeartbeats 4000000 in
theorem find_p10 (H : FBase w W t rb mb S ov places cnt all order R gw gr gk K lin) (hL : (order.length + 1) * 12 ≤ 140737488355328) {u4 u5 u6 u9 u10 u12 u13 u14 u15 u16 u17 u18 u19 u20 u21 u22 u23 u24 u25 u26 u27 u28 u29 u30 u31 u32 u33 u34 u35 u36 u37 u38 u39 u40 u41 u42 u43 u44 u45 u46 u47 u48 u49 u50 u51 u52 u53 u54 u55 u56 u57 u58 u59 u60 u61 u62 u63 u64 u65 u66 u67 u68 u69 u70 u71 u72 u73 u74 u75 u76 u77 u78 u79 u80 u81 u82 u83 u84 u85 u86 u87 u88 u89 u90 u91 u92 u93 u94 u95 u96 u97 u98 u99 u100 u101 u102 u103 u104 u105 u106 u107 u108 u109 u110 u111 u112 u113 u114 u115 u116 u117 u118 u119 u120 u121 u122 u123 u124 u125 u126 u127 u128 u129 u130 u131 u132 u133 u134 u135 u136 u137 u138 u139 u140 u141 u142 u143 u144 u145 u146 u147 u148 u149 u150 u151 u152 u153 u154 u155 u156 u157 u158 u159 u160 u161 u162 u163 u164 u165 u166 u167 u168 : Value} {K1 : Act → World → Prop}
    (h1 : ∀ a w1, Code.wp Try.prog (tl Try.f13 10) (bodyPost Try.prog Try.f13 (FindPost w t rb mb S ov places (order.length + 1) (find R K.c lin K.wr K.us K.wp))) a w1 → K1 a w1) :
    Code.wp Try.prog (rg Try.f13 10) (Exit.then K1 (bodyPost Try.prog Try.f13 (FindPost w t rb mb S ov places (order.length + 1) (find R K.c lin K.wr K.us K.wp))))
      ⟨#[.pointer (some ⟨t, 0, none⟩), .int .u32 (K.c : Nat), .int .u32 (lin : Nat), .agg #[.bool K.wr, .bool K.us, .bool K.wp], u4, u5, u6, .pointer (some ⟨gw, 0, none⟩), .pointer (some ⟨gr, 0, none⟩), u9, u10, .pointer (some ⟨gk, 0, none⟩), u12, u13, u14, u15, u16, u17, u18, u19, u20, u21, u22, u23, u24, u25, u26, u27, u28, u29, u30, u31, u32, u33, u34, u35, u36, u37, u38, u39, u40, u41, u42, u43, u44, u45, u46, u47, u48, u49, u50, u51, u52, u53, u54, u55, u56, u57, u58, u59, u60, u61, u62, u63, u64, u65, u66, u67, u68, u69, u70, u71, u72, u73, u74, u75, u76, u77, u78, u79, u80, u81, u82, u83, u84, u85, u86, u87, u88, u89, u90, u91, u92, u93, u94, u95, u96, u97, u98, u99, u100, u101, u102, u103, u104, u105, u106, u107, u108, u109, u110, u111, u112, u113, u114, u115, u116, u117, u118, u119, u120, u121, u122, u123, u124, u125, u126, u127, u128, u129, u130, u131, u132, u133, u134, u135, u136, u137, u138, u139, u140, u141, u142, u143, u144, u145, u146, u147, u148, u149, u150, u151, u152, u153, u154, u155, u156, u157, u158, u159, u160, u161, u162, u163, u164, u165, u166, u167, u168], []⟩ W := by
  obtain ⟨⟨⟨fr, pd, pt, xw, xu⟩, cd, R'⟩, hr⟩ : ∃ r, find R K.c lin K.wr K.us K.wp = r := ⟨_, rfl⟩
  rw [hr] at h1 ⊢
  have HWR := Lib.hid (find_parts H.T.wide K.hc H.l hr).1
  have HH := Lib.hid H
  have HL := Lib.hid hL
  have HR := Lib.hid hr
  obtain ⟨k0, k1, k2, k3, kf, kl⟩ := H.T.facts
  obtain ⟨-, ⟨y0, y1, y2⟩, -, -, yl, -, -⟩ := H.L.facts
  have cA := Lib.hid (tfind_r (W := W.drew) (H.T.ram.drewN 1) K lin H.l hr)
  have cB := Lib.hid (tfind_r (W := (W.alloc (.cells #[.int .u32 0, .int .u32 0, .int .u32 0, .bool false, .bool false] 38)).drew) ((H.T.ram.alloc (.cells #[.int .u32 0, .int .u32 0, .int .u32 0, .bool false, .bool false] 38)).drewN 1) K lin H.l hr)
  clear H hL hr
  conv => arg 2; whnf
  conv at h1 => enter [a, w1, 1, 2]; whnf
  go_region_with (first
    | ((with_reducible refine (cA.out).mono ?_); rintro e W' ⟨rfl, S', hR', hM'⟩; have HM := Lib.hid (mid_a HH.out.T HH.out.L HH.out.kp HH.out.g HH.out.lt (Nat.le_refl _) HWR.out 1 hR' hM' ⟨fr, pd, pt, xw, xu⟩); clear hR' hM')
    | ((with_reducible refine (cB.out).mono ?_); rintro e W' ⟨rfl, S', hR', hM'⟩; obtain ⟨⟨b0, b1, b2, b3, b4⟩, bf, bl⟩ := held_b (fun k hk => HH.out.T.ram.lt hk) hM'; have HM := Lib.hid (mid_b HH.out.T HH.out.L HH.out.kp HH.out.g HH.out.lt (Nat.le_refl _) HWR.out 1 _ _ _ _ _ hR' hM' ⟨fr, pd, pt, xw, xu⟩); clear hR' hM'))
  all_goals
    go_upto_region 11 with (fail)
    exact find_p11 HM.out HL.out HH.out.T.wide HH.out.l HH.out.p HR.out (by assumption) (by assumption)
end
end Go.Proofs.Ythogfhejfnmdkaa
