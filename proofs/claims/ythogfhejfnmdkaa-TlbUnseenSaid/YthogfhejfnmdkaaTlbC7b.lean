/- tlb: Find, the search in the map. -/
import Derived.Test.YthogfhejfnmdkaaTlbC7
namespace Go.Proofs.Ythogfhejfnmdkaa
open Go.RowKit Go.MapKept
set_option linter.unusedVariables false
section
variable {w W : World} {t rb mb places gw gr gk cnt cnt0 : Nat} {S : Nat → Prop} {ov : Value} {all all0 : PKey → Option Ent} {order : List PKey} {R : RS} {K : PKey} {lin : Nat}
set_option maxRecDepth 20000 in
set_option maxHeartbeats 4000000 in
theorem find_p5_none {gx : Nat} (H : FGot w W t rb mb S ov places cnt all order R gw gr gk gx K lin none) (hL : (order.length + 1) * 12 ≤ 140737488355328) {u4 u5 u6 u9 u10 u14 u15 u16 u17 u18 u19 u20 u21 u22 u23 u24 u25 u26 u27 u28 u29 u30 u31 u32 u33 u34 u35 u36 u37 u38 u39 u40 u41 u42 u43 u44 u45 u46 u47 u48 u49 u50 u51 u52 u53 u54 u55 u56 u57 u58 u59 u60 u61 u62 u63 u64 u65 u66 u67 u68 u69 u70 u71 u72 u73 u74 u75 u76 u77 u78 u79 u80 u81 u82 u83 u84 u85 u86 u87 u88 u89 u90 u91 u92 u93 u94 u95 u96 u97 u98 u99 u100 u101 u102 u103 u104 u105 u106 u107 u108 u109 u110 u111 u112 u113 u114 u115 u116 u117 u118 u119 u120 u121 u122 u123 u124 u125 u126 u127 u128 u129 u130 u131 u132 u133 u134 u135 u136 u137 u138 u139 u140 u141 u142 u143 u144 u145 u146 u147 u148 u149 u150 u151 u152 u153 u154 u155 u156 u157 u158 u159 u160 u161 u162 u163 u164 u165 u166 u167 u168 : Value} {K1 K2 : Act → World → Prop}
    (h1 : ∀ a w1, Code.wp Try.prog (tl Try.f13 5) (Exit.then K2 (bodyPost Try.prog Try.f13 (FindPost w t rb mb S ov places (order.length + 1) (find R K.c lin K.wr K.us K.wp)))) a w1 → K1 a w1) (h2 : ∀ a w1, Code.wp Try.prog (.seq (rg Try.f13 10) (tl Try.f13 10)) (bodyPost Try.prog Try.f13 (FindPost w t rb mb S ov places (order.length + 1) (find R K.c lin K.wr K.us K.wp))) a w1 → K2 a w1) :
    Code.wp Try.prog (rg Try.f13 5) (Exit.then K1 (Exit.then K2 (bodyPost Try.prog Try.f13 (FindPost w t rb mb S ov places (order.length + 1) (find R K.c lin K.wr K.us K.wp)))))
      ⟨#[.pointer (some ⟨t, 0, none⟩), .int .u32 (K.c : Nat), .int .u32 (lin : Nat), .agg #[.bool K.wr, .bool K.us, .bool K.wp], u4, u5, u6, .pointer (some ⟨gw, 0, none⟩), .pointer (some ⟨gr, 0, none⟩), u9, u10, .pointer (some ⟨gk, 0, none⟩), .pointer (some ⟨gx, 0, none⟩), .bool false, u14, u15, u16, u17, u18, u19, u20, u21, u22, u23, u24, u25, u26, u27, u28, u29, u30, u31, u32, u33, u34, u35, u36, u37, u38, u39, u40, u41, u42, u43, u44, u45, u46, u47, u48, u49, u50, u51, u52, u53, u54, u55, u56, u57, u58, u59, u60, u61, u62, u63, u64, u65, u66, u67, u68, u69, u70, u71, u72, u73, u74, u75, u76, u77, u78, u79, u80, u81, u82, u83, u84, u85, u86, u87, u88, u89, u90, u91, u92, u93, u94, u95, u96, u97, u98, u99, u100, u101, u102, u103, u104, u105, u106, u107, u108, u109, u110, u111, u112, u113, u114, u115, u116, u117, u118, u119, u120, u121, u122, u123, u124, u125, u126, u127, u128, u129, u130, u131, u132, u133, u134, u135, u136, u137, u138, u139, u140, u141, u142, u143, u144, u145, u146, u147, u148, u149, u150, u151, u152, u153, u154, u155, u156, u157, u158, u159, u160, u161, u162, u163, u164, u165, u166, u167, u168], []⟩ W := by
  have HL := Lib.hid hL
  have HB := Lib.hid H.b
  clear hL H
  conv => arg 2; whnf
  conv at h1 => enter [a, w1, 1, 2]; whnf
  conv at h2 => enter [a, w1, 1, 2, 1]; whnf
  conv at h2 => enter [a, w1, 1, 2, 2]; whnf
  go_upto_region 10 with (fail)
  exact find_p10 HB.out HL.out (by assumption)
set_option maxRecDepth 20000 in
set_option maxHeartbeats 4000000 in
theorem find_p5_some {gx : Nat} {e : Ent} (H : FGot w W t rb mb S ov places cnt all order R gw gr gk gx K lin (some e)) (hA : all K = some e) (hL : (order.length + 1) * 12 ≤ 140737488355328) {u4 u5 u6 u9 u10 u14 u15 u16 u17 u18 u19 u20 u21 u22 u23 u24 u25 u26 u27 u28 u29 u30 u31 u32 u33 u34 u35 u36 u37 u38 u39 u40 u41 u42 u43 u44 u45 u46 u47 u48 u49 u50 u51 u52 u53 u54 u55 u56 u57 u58 u59 u60 u61 u62 u63 u64 u65 u66 u67 u68 u69 u70 u71 u72 u73 u74 u75 u76 u77 u78 u79 u80 u81 u82 u83 u84 u85 u86 u87 u88 u89 u90 u91 u92 u93 u94 u95 u96 u97 u98 u99 u100 u101 u102 u103 u104 u105 u106 u107 u108 u109 u110 u111 u112 u113 u114 u115 u116 u117 u118 u119 u120 u121 u122 u123 u124 u125 u126 u127 u128 u129 u130 u131 u132 u133 u134 u135 u136 u137 u138 u139 u140 u141 u142 u143 u144 u145 u146 u147 u148 u149 u150 u151 u152 u153 u154 u155 u156 u157 u158 u159 u160 u161 u162 u163 u164 u165 u166 u167 u168 : Value} {K1 K2 : Act → World → Prop}
    (h1 : ∀ a w1, Code.wp Try.prog (tl Try.f13 5) (Exit.then K2 (bodyPost Try.prog Try.f13 (FindPost w t rb mb S ov places (order.length + 1) (find R K.c lin K.wr K.us K.wp)))) a w1 → K1 a w1) (h2 : ∀ a w1, Code.wp Try.prog (.seq (rg Try.f13 10) (tl Try.f13 10)) (bodyPost Try.prog Try.f13 (FindPost w t rb mb S ov places (order.length + 1) (find R K.c lin K.wr K.us K.wp))) a w1 → K2 a w1) :
    Code.wp Try.prog (rg Try.f13 5) (Exit.then K1 (Exit.then K2 (bodyPost Try.prog Try.f13 (FindPost w t rb mb S ov places (order.length + 1) (find R K.c lin K.wr K.us K.wp)))))
      ⟨#[.pointer (some ⟨t, 0, none⟩), .int .u32 (K.c : Nat), .int .u32 (lin : Nat), .agg #[.bool K.wr, .bool K.us, .bool K.wp], u4, u5, u6, .pointer (some ⟨gw, 0, none⟩), .pointer (some ⟨gr, 0, none⟩), u9, u10, .pointer (some ⟨gk, 0, none⟩), .pointer (some ⟨gx, 0, none⟩), .bool true, u14, u15, u16, u17, u18, u19, u20, u21, u22, u23, u24, u25, u26, u27, u28, u29, u30, u31, u32, u33, u34, u35, u36, u37, u38, u39, u40, u41, u42, u43, u44, u45, u46, u47, u48, u49, u50, u51, u52, u53, u54, u55, u56, u57, u58, u59, u60, u61, u62, u63, u64, u65, u66, u67, u68, u69, u70, u71, u72, u73, u74, u75, u76, u77, u78, u79, u80, u81, u82, u83, u84, u85, u86, u87, u88, u89, u90, u91, u92, u93, u94, u95, u96, u97, u98, u99, u100, u101, u102, u103, u104, u105, u106, u107, u108, u109, u110, u111, u112, u113, u114, u115, u116, u117, u118, u119, u120, u121, u122, u123, u124, u125, u126, u127, u128, u129, u130, u131, u132, u133, u134, u135, u136, u137, u138, u139, u140, u141, u142, u143, u144, u145, u146, u147, u148, u149, u150, u151, u152, u153, u154, u155, u156, u157, u158, u159, u160, u161, u162, u163, u164, u165, u166, u167, u168], []⟩ W := by
  have HL := Lib.hid hL
  have HF := Lib.hid H
  have hO := H.O
  have v0 := cell_at (k := 0) hO
  have v1 := cell_at (k := 1) hO
  have v2 := cell_at (k := 2) hO
  have v3 := cell_at (k := 3) hO
  have v4 := cell_at (k := 4) hO
  have vl := heap_lt hO
  simp [entCells] at v0 v1 v2 v3 v4
  obtain ⟨hp, ht, hg⟩ := H.b.T.good K e hA
  have HGd := Lib.hid hg
  clear hO hg hL H hA
  conv => arg 2; whnf
  conv at h1 => enter [a, w1, 1, 2]; whnf
  conv at h2 => enter [a, w1, 1, 2, 1]; whnf
  conv at h2 => enter [a, w1, 1, 2, 2]; whnf
  go_wp2_with fail
  refine (words_any HF.out.b.T e.x hp ht).mono ?_
  rintro e' w2 ⟨rfl, hB2⟩
  have HF2 := Lib.hid (show FGot w w2 t rb mb S ov places cnt all order R gw gr gk gx K lin (some e) from ⟨HF.out.b.below hB2, by rw [hB2.block gx vl]; exact HF.out.O⟩)
  clear hB2 HF hp ht v0 v1 v2 v3 v4 vl
  go_upto_region 7 with (fail)
  by_cases hs : R.read e.x.pde 4 = e.a ∧ R.read e.x.pte 4 = e.b
  · exact find_p7_hit HF2.out hs HGd.out HL.out (by assumption) (by assumption) (by assumption)
  · by_cases h1 : R.read e.x.pde 4 = e.a
    · exact find_p7_missb HF2.out ⟨h1, fun h2 => hs ⟨h1, h2⟩⟩ HL.out (by assumption) (by assumption) (by assumption)
    · exact find_p7_missa HF2.out h1 HL.out (by assumption) (by assumption) (by assumption)
set_option maxRecDepth 20000 in
set_option maxHeartbeats 4000000 in
theorem find_p4_none (H : FBase w W t rb mb S ov places cnt all order R gw gr gk K lin) (hA : all K = none) (hL : (order.length + 1) * 12 ≤ 140737488355328) {u4 u5 u6 u9 u10 u12 u13 u14 u15 u16 u17 u18 u19 u20 u21 u22 u23 u24 u25 u26 u27 u28 u29 u30 u31 u32 u33 u34 u35 u36 u37 u38 u39 u40 u41 u42 u43 u44 u45 u46 u47 u48 u49 u50 u51 u52 u53 u54 u55 u56 u57 u58 u59 u60 u61 u62 u63 u64 u65 u66 u67 u68 u69 u70 u71 u72 u73 u74 u75 u76 u77 u78 u79 u80 u81 u82 u83 u84 u85 u86 u87 u88 u89 u90 u91 u92 u93 u94 u95 u96 u97 u98 u99 u100 u101 u102 u103 u104 u105 u106 u107 u108 u109 u110 u111 u112 u113 u114 u115 u116 u117 u118 u119 u120 u121 u122 u123 u124 u125 u126 u127 u128 u129 u130 u131 u132 u133 u134 u135 u136 u137 u138 u139 u140 u141 u142 u143 u144 u145 u146 u147 u148 u149 u150 u151 u152 u153 u154 u155 u156 u157 u158 u159 u160 u161 u162 u163 u164 u165 u166 u167 u168 : Value} {K1 K2 : Act → World → Prop}
    (h1 : ∀ a w1, Code.wp Try.prog (tl Try.f13 4) (Exit.then K2 (bodyPost Try.prog Try.f13 (FindPost w t rb mb S ov places (order.length + 1) (find R K.c lin K.wr K.us K.wp)))) a w1 → K1 a w1) (h2 : ∀ a w1, Code.wp Try.prog (.seq (rg Try.f13 10) (tl Try.f13 10)) (bodyPost Try.prog Try.f13 (FindPost w t rb mb S ov places (order.length + 1) (find R K.c lin K.wr K.us K.wp))) a w1 → K2 a w1) :
    Code.wp Try.prog (rg Try.f13 4) (Exit.then K1 (Exit.then K2 (bodyPost Try.prog Try.f13 (FindPost w t rb mb S ov places (order.length + 1) (find R K.c lin K.wr K.us K.wp)))))
      ⟨#[.pointer (some ⟨t, 0, none⟩), .int .u32 (K.c : Nat), .int .u32 (lin : Nat), .agg #[.bool K.wr, .bool K.us, .bool K.wp], u4, u5, u6, .pointer (some ⟨gw, 0, none⟩), .pointer (some ⟨gr, 0, none⟩), u9, u10, .pointer (some ⟨gk, 0, none⟩), u12, u13, u14, u15, u16, u17, u18, u19, u20, u21, u22, u23, u24, u25, u26, u27, u28, u29, u30, u31, u32, u33, u34, u35, u36, u37, u38, u39, u40, u41, u42, u43, u44, u45, u46, u47, u48, u49, u50, u51, u52, u53, u54, u55, u56, u57, u58, u59, u60, u61, u62, u63, u64, u65, u66, u67, u68, u69, u70, u71, u72, u73, u74, u75, u76, u77, u78, u79, u80, u81, u82, u83, u84, u85, u86, u87, u88, u89, u90, u91, u92, u93, u94, u95, u96, u97, u98, u99, u100, u101, u102, u103, u104, u105, u106, u107, u108, u109, u110, u111, u112, u113, u114, u115, u116, u117, u118, u119, u120, u121, u122, u123, u124, u125, u126, u127, u128, u129, u130, u131, u132, u133, u134, u135, u136, u137, u138, u139, u140, u141, u142, u143, u144, u145, u146, u147, u148, u149, u150, u151, u152, u153, u154, u155, u156, u157, u158, u159, u160, u161, u162, u163, u164, u165, u166, u167, u168], []⟩ W := by
  have HL := Lib.hid hL
  have HA := Lib.hid hA
  obtain ⟨k0, k1, k2, k3, kf, kl⟩ := H.T.facts
  obtain ⟨⟨z0, z1, z2, z3, z4⟩, -, -, -, -, -, zl⟩ := H.L.facts
  have hlk : (Instr.lookup 67 (.map (some mb)) (.agg #[.int .u32 (K.c : Nat), .int .u32 (K.p : Nat), .bool K.wr, .bool K.us, .bool K.wp]) true).run Try.prog W.drew = .ok (.tuple #[((all K).map Ent.val).getD keptZero, .bool ((all K).map Ent.val).isSome]) W.drew :=
    (H.T.map.drewN 1).lookupOk PK Try.underlying67 (kept_zero _) K
  have hlkA : (Instr.lookup 67 (.map (some mb)) (.agg #[.int .u32 (K.c : Nat), .int .u32 (K.p : Nat), .bool K.wr, .bool K.us, .bool K.wp]) true).run Try.prog (W.alloc (.cells #[.int .u32 0, .int .u32 0, .int .u32 0, .bool false, .bool false, .int .u32 0, .int .u32 0] 75)).drew = .ok (.tuple #[((all K).map Ent.val).getD keptZero, .bool ((all K).map Ent.val).isSome]) (W.alloc (.cells #[.int .u32 0, .int .u32 0, .int .u32 0, .bool false, .bool false, .int .u32 0, .int .u32 0] 75)).drew :=
    ((H.T.map.alloc _).drewN 1).lookupOk PK Try.underlying67 (kept_zero _) K
  rw [hA] at hlk hlkA
  have hlk2 : (Instr.lookup 67 (.map (some mb)) (.agg #[.int .u32 (K.c : Nat), .int .u32 (K.p : Nat), .bool K.wr, .bool K.us, .bool K.wp]) true).run Try.prog W.drew = .ok (.tuple #[.agg #[.int .u32 0, .int .u32 0, .int .u32 0, .bool false, .bool false, .int .u32 0, .int .u32 0], .bool false]) W.drew := hlk
  have hlk3 : (Instr.lookup 67 (.map (some mb)) (.agg #[.int .u32 (K.c : Nat), .int .u32 (K.p : Nat), .bool K.wr, .bool K.us, .bool K.wp]) true).run Try.prog (W.alloc (.cells #[.int .u32 0, .int .u32 0, .int .u32 0, .bool false, .bool false, .int .u32 0, .int .u32 0] 75)).drew = .ok (.tuple #[.agg #[.int .u32 0, .int .u32 0, .int .u32 0, .bool false, .bool false, .int .u32 0, .int .u32 0], .bool false]) (W.alloc (.cells #[.int .u32 0, .int .u32 0, .int .u32 0, .bool false, .bool false, .int .u32 0, .int .u32 0] 75)).drew := hlkA
  have HF := Lib.hid (fgot_of (o := none) H)
  clear hlk hlkA hA H hL
  conv => arg 2; whnf
  conv at h1 => enter [a, w1, 1, 2]; whnf
  conv at h2 => enter [a, w1, 1, 2, 1]; whnf
  conv at h2 => enter [a, w1, 1, 2, 2]; whnf
  go_region_with (fail)
  all_goals
    go_upto_region 5 with (fail)
    exact find_p5_none HF.out HL.out (by assumption) (by assumption)
set_option maxRecDepth 20000 in
set_option maxHeartbeats 4000000 in
theorem find_p4_some (H : FBase w W t rb mb S ov places cnt all order R gw gr gk K lin) {e : Ent} (hA : all K = some e) (hL : (order.length + 1) * 12 ≤ 140737488355328) {u4 u5 u6 u9 u10 u12 u13 u14 u15 u16 u17 u18 u19 u20 u21 u22 u23 u24 u25 u26 u27 u28 u29 u30 u31 u32 u33 u34 u35 u36 u37 u38 u39 u40 u41 u42 u43 u44 u45 u46 u47 u48 u49 u50 u51 u52 u53 u54 u55 u56 u57 u58 u59 u60 u61 u62 u63 u64 u65 u66 u67 u68 u69 u70 u71 u72 u73 u74 u75 u76 u77 u78 u79 u80 u81 u82 u83 u84 u85 u86 u87 u88 u89 u90 u91 u92 u93 u94 u95 u96 u97 u98 u99 u100 u101 u102 u103 u104 u105 u106 u107 u108 u109 u110 u111 u112 u113 u114 u115 u116 u117 u118 u119 u120 u121 u122 u123 u124 u125 u126 u127 u128 u129 u130 u131 u132 u133 u134 u135 u136 u137 u138 u139 u140 u141 u142 u143 u144 u145 u146 u147 u148 u149 u150 u151 u152 u153 u154 u155 u156 u157 u158 u159 u160 u161 u162 u163 u164 u165 u166 u167 u168 : Value} {K1 K2 : Act → World → Prop}
    (h1 : ∀ a w1, Code.wp Try.prog (tl Try.f13 4) (Exit.then K2 (bodyPost Try.prog Try.f13 (FindPost w t rb mb S ov places (order.length + 1) (find R K.c lin K.wr K.us K.wp)))) a w1 → K1 a w1) (h2 : ∀ a w1, Code.wp Try.prog (.seq (rg Try.f13 10) (tl Try.f13 10)) (bodyPost Try.prog Try.f13 (FindPost w t rb mb S ov places (order.length + 1) (find R K.c lin K.wr K.us K.wp))) a w1 → K2 a w1) :
    Code.wp Try.prog (rg Try.f13 4) (Exit.then K1 (Exit.then K2 (bodyPost Try.prog Try.f13 (FindPost w t rb mb S ov places (order.length + 1) (find R K.c lin K.wr K.us K.wp)))))
      ⟨#[.pointer (some ⟨t, 0, none⟩), .int .u32 (K.c : Nat), .int .u32 (lin : Nat), .agg #[.bool K.wr, .bool K.us, .bool K.wp], u4, u5, u6, .pointer (some ⟨gw, 0, none⟩), .pointer (some ⟨gr, 0, none⟩), u9, u10, .pointer (some ⟨gk, 0, none⟩), u12, u13, u14, u15, u16, u17, u18, u19, u20, u21, u22, u23, u24, u25, u26, u27, u28, u29, u30, u31, u32, u33, u34, u35, u36, u37, u38, u39, u40, u41, u42, u43, u44, u45, u46, u47, u48, u49, u50, u51, u52, u53, u54, u55, u56, u57, u58, u59, u60, u61, u62, u63, u64, u65, u66, u67, u68, u69, u70, u71, u72, u73, u74, u75, u76, u77, u78, u79, u80, u81, u82, u83, u84, u85, u86, u87, u88, u89, u90, u91, u92, u93, u94, u95, u96, u97, u98, u99, u100, u101, u102, u103, u104, u105, u106, u107, u108, u109, u110, u111, u112, u113, u114, u115, u116, u117, u118, u119, u120, u121, u122, u123, u124, u125, u126, u127, u128, u129, u130, u131, u132, u133, u134, u135, u136, u137, u138, u139, u140, u141, u142, u143, u144, u145, u146, u147, u148, u149, u150, u151, u152, u153, u154, u155, u156, u157, u158, u159, u160, u161, u162, u163, u164, u165, u166, u167, u168], []⟩ W := by
  have HL := Lib.hid hL
  have HA := Lib.hid hA
  obtain ⟨k0, k1, k2, k3, kf, kl⟩ := H.T.facts
  obtain ⟨⟨z0, z1, z2, z3, z4⟩, -, -, -, -, -, zl⟩ := H.L.facts
  have hlk : (Instr.lookup 67 (.map (some mb)) (.agg #[.int .u32 (K.c : Nat), .int .u32 (K.p : Nat), .bool K.wr, .bool K.us, .bool K.wp]) true).run Try.prog W.drew = .ok (.tuple #[((all K).map Ent.val).getD keptZero, .bool ((all K).map Ent.val).isSome]) W.drew :=
    (H.T.map.drewN 1).lookupOk PK Try.underlying67 (kept_zero _) K
  have hlkA : (Instr.lookup 67 (.map (some mb)) (.agg #[.int .u32 (K.c : Nat), .int .u32 (K.p : Nat), .bool K.wr, .bool K.us, .bool K.wp]) true).run Try.prog (W.alloc (.cells #[.int .u32 0, .int .u32 0, .int .u32 0, .bool false, .bool false, .int .u32 0, .int .u32 0] 75)).drew = .ok (.tuple #[((all K).map Ent.val).getD keptZero, .bool ((all K).map Ent.val).isSome]) (W.alloc (.cells #[.int .u32 0, .int .u32 0, .int .u32 0, .bool false, .bool false, .int .u32 0, .int .u32 0] 75)).drew :=
    ((H.T.map.alloc _).drewN 1).lookupOk PK Try.underlying67 (kept_zero _) K
  rw [hA] at hlk hlkA
  have hlk2 : (Instr.lookup 67 (.map (some mb)) (.agg #[.int .u32 (K.c : Nat), .int .u32 (K.p : Nat), .bool K.wr, .bool K.us, .bool K.wp]) true).run Try.prog W.drew = .ok (.tuple #[.agg #[.int .u32 (e.x.frame : Nat), .int .u32 (e.x.pde : Nat), .int .u32 (e.x.pte : Nat), .bool e.x.w, .bool e.x.u, .int .u32 (e.a : Nat), .int .u32 (e.b : Nat)], .bool true]) W.drew := hlk
  have hlk3 : (Instr.lookup 67 (.map (some mb)) (.agg #[.int .u32 (K.c : Nat), .int .u32 (K.p : Nat), .bool K.wr, .bool K.us, .bool K.wp]) true).run Try.prog (W.alloc (.cells #[.int .u32 0, .int .u32 0, .int .u32 0, .bool false, .bool false, .int .u32 0, .int .u32 0] 75)).drew = .ok (.tuple #[.agg #[.int .u32 (e.x.frame : Nat), .int .u32 (e.x.pde : Nat), .int .u32 (e.x.pte : Nat), .bool e.x.w, .bool e.x.u, .int .u32 (e.a : Nat), .int .u32 (e.b : Nat)], .bool true]) (W.alloc (.cells #[.int .u32 0, .int .u32 0, .int .u32 0, .bool false, .bool false, .int .u32 0, .int .u32 0] 75)).drew := hlkA
  have HF := Lib.hid (fgot_of (o := some e) H)
  clear hlk hlkA hA H hL
  conv => arg 2; whnf
  conv at h1 => enter [a, w1, 1, 2]; whnf
  conv at h2 => enter [a, w1, 1, 2, 1]; whnf
  conv at h2 => enter [a, w1, 1, 2, 2]; whnf
  go_region_with (fail)
  all_goals
    go_upto_region 5 with (fail)
    exact find_p5_some HF.out HA.out HL.out (by assumption) (by assumption)
end
end Go.Proofs.Ythogfhejfnmdkaa
