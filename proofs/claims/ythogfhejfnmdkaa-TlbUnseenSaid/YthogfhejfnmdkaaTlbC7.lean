/- tlb: Find, the search in the map. -/
import Derived.Test.YthogfhejfnmdkaaTlbC6
namespace Go.Proofs.Ythogfhejfnmdkaa
open Go.RowKit Go.MapKept
set_option linter.unusedVariables false
section
variable {w W : World} {t rb mb places gw gr gk cnt cnt0 : Nat} {S : Nat → Prop} {ov : Value} {all all0 : PKey → Option Ent} {order : List PKey} {R : RS} {K : PKey} {lin : Nat}
/-- The same, one key less. -/
theorem FBase.less {w' : World} {n' : Nat} (H : FBase w W t rb mb S ov places cnt all order R gw gr gk K lin) {L : PKey} (M : MapK w' mb PKey.val (fun m => if m = L then none else (all m).map Ent.val) n') (hn : n' ≤ places) (hk : Keeps (fun k => k = mb) (W.drewN 1) w') :
    FBase w w' t rb mb S ov places n' (fun m => if m = L then none else all m) order R gw gr gk K lin := by
  obtain ⟨-, -, -, -, l1, l2, l3⟩ := H.L.facts
  have hm := H.lt mb (.inr (.inl rfl))
  have hg := H.g
  exact ⟨(H.T.drewN 1).less M hn hk, H.L.of_heap fun k he => hk.block k (by rcases he with rfl | rfl | rfl <;> assumption) (by rcases he with rfl | rfl | rfl <;> omega), (H.kp.drewN 1).andThen hk fun i _ e => .inr (.inl e), H.lt, H.g, H.p, H.l⟩
theorem FBase.below {w' : World} (H : FBase w W t rb mb S ov places cnt all order R gw gr gk K lin) (hb : Below W.heap.size W w') : FBase w w' t rb mb S ov places cnt all order R gw gr gk K lin := by
  obtain ⟨-, -, -, -, l1, l2, l3⟩ := H.L.facts
  exact ⟨H.T.below hb, H.L.of_heap fun k he => hb.block k (by rcases he with rfl | rfl | rfl <;> assumption), H.kp.trans (Keeps.ofBelow hb), H.lt, H.g, H.p, H.l⟩
theorem FBase.fin (H : FBase w W t rb mb S ov places cnt all order R gw gr gk K lin) (v0 v1 v2 v3 v4 : Value) : TEnd w t rb mb S ov places (order.length + 1) R (sets5 W gr v0 v1 v2 v3 v4) :=
  ⟨S, ov, _, _, _, H.T.keeps (keeps_sets5 W gr v0 v1 v2 v3 v4) (fun k hk e => by have h1 := H.lt k hk; have h2 := H.g.2.1; omega), Nat.le_succ _, keeps_own H.kp H.g.2.1 v0 v1 v2 v3 v4, fun k h => .inl h⟩
/-- What the search in the map found. -/
structure FGot (w W : World) (t rb mb : Nat) (S : Nat → Prop) (ov : Value) (places cnt : Nat) (all : PKey → Option Ent) (order : List PKey) (R : RS) (gw gr gk gx : Nat) (K : PKey) (lin : Nat) (o : Option Ent) : Prop where
  b : FBase w W t rb mb S ov places cnt all order R gw gr gk K lin
  O : W.heap[gx]? = some (.cells (entCells o) 75)
theorem fgot_of {o : Option Ent} (H : FBase w W t rb mb S ov places cnt all order R gw gr gk K lin) : FGot w (W.alloc (.cells (entCells o) 75)).drew t rb mb S ov places cnt all order R gw gr gk W.heap.size K lin o := by
  obtain ⟨-, -, -, -, l1, l2, l3⟩ := H.L.facts
  exact ⟨⟨(H.T.alloc _).drewN 1, H.L.of_heap fun k hk => Below.heap_alloc _ _ _ (by rcases hk with rfl | rfl | rfl <;> assumption), (H.kp.alloc _).drewN 1, H.lt, H.g, H.p, H.l⟩, heap_new W _⟩
set_option maxRecDepth 20000 in
set_option maxHeartbeats 4000000 in
theorem find_p9 (H : FBase w W t rb mb S ov places cnt all order R gw gr gk K lin) (hL : (order.length + 1) * 12 ≤ 140737488355328) {u4 u5 u6 u9 u10 u12 u13 u14 u15 u16 u17 u18 u19 u20 u21 u22 u23 u24 u25 u26 u27 u28 u29 u30 u31 u32 u33 u34 u35 u36 u37 u38 u39 u40 u41 u42 u43 u44 u45 u46 u47 u48 u49 u50 u51 u52 u53 u54 u55 u56 u57 u58 u59 u60 u61 u62 u63 u64 u65 u66 u67 u68 u69 u70 u71 u72 u73 u74 u75 u76 u77 u78 u79 u80 u81 u82 u83 u84 u85 u86 u87 u88 u89 u90 u91 u92 u93 u94 u95 u96 u97 u98 u99 u100 u101 u102 u103 u104 u105 u106 u107 u108 u109 u110 u111 u112 u113 u114 u115 u116 u117 u118 u119 u120 u121 u122 u123 u124 u125 u126 u127 u128 u129 u130 u131 u132 u133 u134 u135 u136 u137 u138 u139 u140 u141 u142 u143 u144 u145 u146 u147 u148 u149 u150 u151 u152 u153 u154 u155 u156 u157 u158 u159 u160 u161 u162 u163 u164 u165 u166 u167 u168 : Value} {K2 : Act → World → Prop}
    (h2 : ∀ a w1, Code.wp Try.prog (.seq (rg Try.f13 10) (tl Try.f13 10)) (bodyPost Try.prog Try.f13 (FindPost w t rb mb S ov places (order.length + 1) (find R K.c lin K.wr K.us K.wp))) a w1 → K2 a w1) :
    Code.wp Try.prog (rg Try.f13 9) (Exit.then K2 (bodyPost Try.prog Try.f13 (FindPost w t rb mb S ov places (order.length + 1) (find R K.c lin K.wr K.us K.wp))))
      ⟨#[.pointer (some ⟨t, 0, none⟩), .int .u32 (K.c : Nat), .int .u32 (lin : Nat), .agg #[.bool K.wr, .bool K.us, .bool K.wp], u4, u5, u6, .pointer (some ⟨gw, 0, none⟩), .pointer (some ⟨gr, 0, none⟩), u9, u10, .pointer (some ⟨gk, 0, none⟩), u12, u13, u14, u15, u16, u17, u18, u19, u20, u21, u22, u23, u24, u25, u26, u27, u28, u29, u30, u31, u32, u33, u34, u35, u36, u37, u38, u39, u40, u41, u42, u43, u44, u45, u46, u47, u48, u49, u50, u51, u52, u53, u54, u55, u56, u57, u58, u59, u60, u61, u62, u63, u64, u65, u66, u67, u68, u69, u70, u71, u72, u73, u74, u75, u76, u77, u78, u79, u80, u81, u82, u83, u84, u85, u86, u87, u88, u89, u90, u91, u92, u93, u94, u95, u96, u97, u98, u99, u100, u101, u102, u103, u104, u105, u106, u107, u108, u109, u110, u111, u112, u113, u114, u115, u116, u117, u118, u119, u120, u121, u122, u123, u124, u125, u126, u127, u128, u129, u130, u131, u132, u133, u134, u135, u136, u137, u138, u139, u140, u141, u142, u143, u144, u145, u146, u147, u148, u149, u150, u151, u152, u153, u154, u155, u156, u157, u158, u159, u160, u161, u162, u163, u164, u165, u166, u167, u168], []⟩ W := by
  have HL := Lib.hid hL
  obtain ⟨k0, k1, k2, k3, kf, kl⟩ := H.T.facts
  obtain ⟨⟨z0, z1, z2, z3, z4⟩, -, -, -, -, -, zl⟩ := H.L.facts
  obtain ⟨w3, hdel, M3, K3⟩ := (H.T.map.drewN 1).delete (P := Try.prog) PK Try.underlying67 K 72 0
  have hdel : (Builtin.delete_ #[67, 72] 0 #[.map (some mb), .agg #[.int .u32 (K.c : Nat), .int .u32 (K.p : Nat), .bool K.wr, .bool K.us, .bool K.wp]]).run Try.prog W.drew = .ok (.tuple #[]) w3 := hdel
  have HB3 := Lib.hid (H.less M3 (by have := H.T.c1; split <;> omega) K3)
  clear M3 K3 H hL
  conv => arg 2; whnf
  conv at h2 => enter [a, w1, 1, 2, 1]; whnf
  conv at h2 => enter [a, w1, 1, 2, 2]; whnf
  go_wp2_with fail
  go_still_tail 5, (by kernel_rfl)
  change wpList _ _ _ _ _ W.drew
  go_upto_region 10 with (fail)
  exact find_p10 HB3.out HL.out (by assumption)
set_option maxRecDepth 20000 in
set_option maxHeartbeats 4000000 in
theorem find_p7_hit {gx : Nat} {e : Ent} (H : FGot w W t rb mb S ov places cnt all order R gw gr gk gx K lin (some e)) (hs : R.read e.x.pde 4 = e.a ∧ R.read e.x.pte 4 = e.b) (hg : Good K.c K.p K.wr K.us K.wp e.x e.a e.b) (hL : (order.length + 1) * 12 ≤ 140737488355328) {u4 u5 u6 u9 u10 u13 u16 u17 u18 u19 u20 u21 u22 u23 u24 u25 u26 u27 u28 u29 u30 u31 u32 u33 u34 u35 u36 u37 u38 u39 u40 u41 u42 u43 u44 u45 u46 u47 u48 u49 u50 u51 u52 u53 u54 u55 u56 u57 u58 u59 u60 u61 u62 u63 u64 u65 u66 u67 u68 u69 u70 u71 u72 u73 u74 u75 u76 u77 u78 u79 u80 u81 u82 u83 u84 u85 u86 u87 u88 u89 u90 u91 u92 u93 u94 u95 u96 u97 u98 u99 u100 u101 u102 u103 u104 u105 u106 u107 u108 u109 u110 u111 u112 u113 u114 u115 u116 u117 u118 u119 u120 u121 u122 u123 u124 u125 u126 u127 u128 u129 u130 u131 u132 u133 u134 u135 u136 u137 u138 u139 u140 u141 u142 u143 u144 u145 u146 u147 u148 u149 u150 u151 u152 u153 u154 u155 u156 u157 u158 u159 u160 u161 u162 u163 u164 u165 u166 u167 u168 : Value} {K1 K7 K2 : Act → World → Prop}
    (h1 : ∀ a w1, Code.wp Try.prog (tl Try.f13 7) (Exit.then K7 (Exit.then K2 (bodyPost Try.prog Try.f13 (FindPost w t rb mb S ov places (order.length + 1) (find R K.c lin K.wr K.us K.wp))))) a w1 → K1 a w1) (h7 : ∀ a w1, Code.wp Try.prog (rg Try.f13 9) (Exit.then K2 (bodyPost Try.prog Try.f13 (FindPost w t rb mb S ov places (order.length + 1) (find R K.c lin K.wr K.us K.wp)))) a w1 → K7 a w1)
    (h2 : ∀ a w1, Code.wp Try.prog (.seq (rg Try.f13 10) (tl Try.f13 10)) (bodyPost Try.prog Try.f13 (FindPost w t rb mb S ov places (order.length + 1) (find R K.c lin K.wr K.us K.wp))) a w1 → K2 a w1) :
    Code.wp Try.prog (rg Try.f13 7) (Exit.then K1 (Exit.then K7 (Exit.then K2 (bodyPost Try.prog Try.f13 (FindPost w t rb mb S ov places (order.length + 1) (find R K.c lin K.wr K.us K.wp))))))
      ⟨#[.pointer (some ⟨t, 0, none⟩), .int .u32 (K.c : Nat), .int .u32 (lin : Nat), .agg #[.bool K.wr, .bool K.us, .bool K.wp], u4, u5, u6, .pointer (some ⟨gw, 0, none⟩), .pointer (some ⟨gr, 0, none⟩), u9, u10, .pointer (some ⟨gk, 0, none⟩), .pointer (some ⟨gx, 0, none⟩), u13, .int .u32 (R.read e.x.pde 4 : Nat), .int .u32 (R.read e.x.pte 4 : Nat), u16, u17, u18, u19, u20, u21, u22, u23, u24, u25, u26, u27, u28, u29, u30, u31, u32, u33, u34, u35, u36, u37, u38, u39, u40, u41, u42, u43, u44, u45, u46, u47, u48, u49, u50, u51, u52, u53, u54, u55, u56, u57, u58, u59, u60, u61, u62, u63, u64, u65, u66, u67, u68, u69, u70, u71, u72, u73, u74, u75, u76, u77, u78, u79, u80, u81, u82, u83, u84, u85, u86, u87, u88, u89, u90, u91, u92, u93, u94, u95, u96, u97, u98, u99, u100, u101, u102, u103, u104, u105, u106, u107, u108, u109, u110, u111, u112, u113, u114, u115, u116, u117, u118, u119, u120, u121, u122, u123, u124, u125, u126, u127, u128, u129, u130, u131, u132, u133, u134, u135, u136, u137, u138, u139, u140, u141, u142, u143, u144, u145, u146, u147, u148, u149, u150, u151, u152, u153, u154, u155, u156, u157, u158, u159, u160, u161, u162, u163, u164, u165, u166, u167, u168], []⟩ W := by
  have HL := Lib.hid hL
  have hO := H.O
  have v0 := cell_at (k := 0) hO
  have v1 := cell_at (k := 1) hO
  have v2 := cell_at (k := 2) hO
  have v3 := cell_at (k := 3) hO
  have v4 := cell_at (k := 4) hO
  have v5 := cell_at (k := 5) hO
  have v6 := cell_at (k := 6) hO
  have vl := heap_lt hO
  simp [entCells] at v0 v1 v2 v3 v4 v5 v6
  obtain ⟨-, -, ⟨x0, x1, x2, x3, x4⟩, xf, -, xl, -⟩ := H.b.L.facts
  have HB := Lib.hid H.b
  clear hL hO H
  conv => arg 2; whnf
  conv at h1 => enter [a, w1, 1, 2]; whnf
  conv at h7 => enter [a, w1, 1, 2]; whnf
  conv at h2 => enter [a, w1, 1, 2, 1]; whnf
  conv at h2 => enter [a, w1, 1, 2, 2]; whnf
  obtain ⟨ha, hb⟩ := hs
  rw [ha, hb]
  have HCS := Lib.hid (cell_sets HB.out.L.res (.int .u32 (e.x.frame : Nat)) (.int .u32 (e.x.pde : Nat)) (.int .u32 (e.x.pte : Nat)) (.bool e.x.w) (.bool e.x.u))
  have HFin := Lib.hid (HB.out.fin (.int .u32 (e.x.frame : Nat)) (.int .u32 (e.x.pde : Nat)) (.int .u32 (e.x.pte : Nat)) (.bool e.x.w) (.bool e.x.u))
  have HFF := Lib.hid (hg R lin HB.out.p ha hb)
  clear ha hb hg
  go_wp2_with fail
  change bodyPost _ _ _ _ _ (sets5 W gr (.int .u32 (e.x.frame : Nat)) (.int .u32 (e.x.pde : Nat)) (.int .u32 (e.x.pte : Nat)) (.bool e.x.w) (.bool e.x.u))
  obtain ⟨r0, r1, r2, r3, r4⟩ := HCS.out
  clear HCS x0 x1 x2 x3 x4 v0 v1 v2 v3 v4 v5 v6 xf xl vl
  generalize sets5 W gr (.int .u32 (e.x.frame : Nat)) (.int .u32 (e.x.pde : Nat)) (.int .u32 (e.x.pte : Nat)) (.bool e.x.w) (.bool e.x.u) = Wf at *
  refine bodyPost_ret (v := .tuple #[.agg #[.int .u32 (e.x.frame : Nat), .int .u32 (e.x.pde : Nat), .int .u32 (e.x.pte : Nat), .bool e.x.w, .bool e.x.u], .int .i64 (-1), .int .i64 0]) (by simp [results, Try.results13, go_sem, r0, r1, r2, r3, r4]) rfl ?_
  rw [HFF.out]
  exact ⟨rfl, HFin.out⟩
set_option maxRecDepth 20000 in
set_option maxHeartbeats 4000000 in
theorem find_p7_missa {gx : Nat} {e : Ent} (H : FGot w W t rb mb S ov places cnt all order R gw gr gk gx K lin (some e)) (hs : ¬ R.read e.x.pde 4 = e.a) (hL : (order.length + 1) * 12 ≤ 140737488355328) {u4 u5 u6 u9 u10 u13 u16 u17 u18 u19 u20 u21 u22 u23 u24 u25 u26 u27 u28 u29 u30 u31 u32 u33 u34 u35 u36 u37 u38 u39 u40 u41 u42 u43 u44 u45 u46 u47 u48 u49 u50 u51 u52 u53 u54 u55 u56 u57 u58 u59 u60 u61 u62 u63 u64 u65 u66 u67 u68 u69 u70 u71 u72 u73 u74 u75 u76 u77 u78 u79 u80 u81 u82 u83 u84 u85 u86 u87 u88 u89 u90 u91 u92 u93 u94 u95 u96 u97 u98 u99 u100 u101 u102 u103 u104 u105 u106 u107 u108 u109 u110 u111 u112 u113 u114 u115 u116 u117 u118 u119 u120 u121 u122 u123 u124 u125 u126 u127 u128 u129 u130 u131 u132 u133 u134 u135 u136 u137 u138 u139 u140 u141 u142 u143 u144 u145 u146 u147 u148 u149 u150 u151 u152 u153 u154 u155 u156 u157 u158 u159 u160 u161 u162 u163 u164 u165 u166 u167 u168 : Value} {K1 K7 K2 : Act → World → Prop}
    (h1 : ∀ a w1, Code.wp Try.prog (tl Try.f13 7) (Exit.then K7 (Exit.then K2 (bodyPost Try.prog Try.f13 (FindPost w t rb mb S ov places (order.length + 1) (find R K.c lin K.wr K.us K.wp))))) a w1 → K1 a w1) (h7 : ∀ a w1, Code.wp Try.prog (rg Try.f13 9) (Exit.then K2 (bodyPost Try.prog Try.f13 (FindPost w t rb mb S ov places (order.length + 1) (find R K.c lin K.wr K.us K.wp)))) a w1 → K7 a w1)
    (h2 : ∀ a w1, Code.wp Try.prog (.seq (rg Try.f13 10) (tl Try.f13 10)) (bodyPost Try.prog Try.f13 (FindPost w t rb mb S ov places (order.length + 1) (find R K.c lin K.wr K.us K.wp))) a w1 → K2 a w1) :
    Code.wp Try.prog (rg Try.f13 7) (Exit.then K1 (Exit.then K7 (Exit.then K2 (bodyPost Try.prog Try.f13 (FindPost w t rb mb S ov places (order.length + 1) (find R K.c lin K.wr K.us K.wp))))))
      ⟨#[.pointer (some ⟨t, 0, none⟩), .int .u32 (K.c : Nat), .int .u32 (lin : Nat), .agg #[.bool K.wr, .bool K.us, .bool K.wp], u4, u5, u6, .pointer (some ⟨gw, 0, none⟩), .pointer (some ⟨gr, 0, none⟩), u9, u10, .pointer (some ⟨gk, 0, none⟩), .pointer (some ⟨gx, 0, none⟩), u13, .int .u32 (R.read e.x.pde 4 : Nat), .int .u32 (R.read e.x.pte 4 : Nat), u16, u17, u18, u19, u20, u21, u22, u23, u24, u25, u26, u27, u28, u29, u30, u31, u32, u33, u34, u35, u36, u37, u38, u39, u40, u41, u42, u43, u44, u45, u46, u47, u48, u49, u50, u51, u52, u53, u54, u55, u56, u57, u58, u59, u60, u61, u62, u63, u64, u65, u66, u67, u68, u69, u70, u71, u72, u73, u74, u75, u76, u77, u78, u79, u80, u81, u82, u83, u84, u85, u86, u87, u88, u89, u90, u91, u92, u93, u94, u95, u96, u97, u98, u99, u100, u101, u102, u103, u104, u105, u106, u107, u108, u109, u110, u111, u112, u113, u114, u115, u116, u117, u118, u119, u120, u121, u122, u123, u124, u125, u126, u127, u128, u129, u130, u131, u132, u133, u134, u135, u136, u137, u138, u139, u140, u141, u142, u143, u144, u145, u146, u147, u148, u149, u150, u151, u152, u153, u154, u155, u156, u157, u158, u159, u160, u161, u162, u163, u164, u165, u166, u167, u168], []⟩ W := by
  have HL := Lib.hid hL
  have hO := H.O
  have v0 := cell_at (k := 0) hO
  have v1 := cell_at (k := 1) hO
  have v2 := cell_at (k := 2) hO
  have v3 := cell_at (k := 3) hO
  have v4 := cell_at (k := 4) hO
  have v5 := cell_at (k := 5) hO
  have v6 := cell_at (k := 6) hO
  have vl := heap_lt hO
  simp [entCells] at v0 v1 v2 v3 v4 v5 v6
  obtain ⟨-, -, ⟨x0, x1, x2, x3, x4⟩, xf, -, xl, -⟩ := H.b.L.facts
  have HB := Lib.hid H.b
  clear hL hO H
  conv => arg 2; whnf
  conv at h1 => enter [a, w1, 1, 2]; whnf
  conv at h7 => enter [a, w1, 1, 2]; whnf
  conv at h2 => enter [a, w1, 1, 2, 1]; whnf
  conv at h2 => enter [a, w1, 1, 2, 2]; whnf
  have hg : ¬ ((R.read e.x.pde 4 : Nat) : Int) = (e.a : Nat) := by omega
  have hgb : (((R.read e.x.pde 4 : Nat) : Int) == (e.a : Nat)) = false := by simp; omega
  clear x0 x1 x2 x3 x4 xf xl hs
  go_upto_region 9 with (fail)
  exact find_p9 HB.out HL.out (by assumption)
set_option maxRecDepth 20000 in
set_option maxHeartbeats 4000000 in
theorem find_p7_missb {gx : Nat} {e : Ent} (H : FGot w W t rb mb S ov places cnt all order R gw gr gk gx K lin (some e)) (hs : R.read e.x.pde 4 = e.a ∧ ¬ R.read e.x.pte 4 = e.b) (hL : (order.length + 1) * 12 ≤ 140737488355328) {u4 u5 u6 u9 u10 u13 u16 u17 u18 u19 u20 u21 u22 u23 u24 u25 u26 u27 u28 u29 u30 u31 u32 u33 u34 u35 u36 u37 u38 u39 u40 u41 u42 u43 u44 u45 u46 u47 u48 u49 u50 u51 u52 u53 u54 u55 u56 u57 u58 u59 u60 u61 u62 u63 u64 u65 u66 u67 u68 u69 u70 u71 u72 u73 u74 u75 u76 u77 u78 u79 u80 u81 u82 u83 u84 u85 u86 u87 u88 u89 u90 u91 u92 u93 u94 u95 u96 u97 u98 u99 u100 u101 u102 u103 u104 u105 u106 u107 u108 u109 u110 u111 u112 u113 u114 u115 u116 u117 u118 u119 u120 u121 u122 u123 u124 u125 u126 u127 u128 u129 u130 u131 u132 u133 u134 u135 u136 u137 u138 u139 u140 u141 u142 u143 u144 u145 u146 u147 u148 u149 u150 u151 u152 u153 u154 u155 u156 u157 u158 u159 u160 u161 u162 u163 u164 u165 u166 u167 u168 : Value} {K1 K7 K2 : Act → World → Prop}
    (h1 : ∀ a w1, Code.wp Try.prog (tl Try.f13 7) (Exit.then K7 (Exit.then K2 (bodyPost Try.prog Try.f13 (FindPost w t rb mb S ov places (order.length + 1) (find R K.c lin K.wr K.us K.wp))))) a w1 → K1 a w1) (h7 : ∀ a w1, Code.wp Try.prog (rg Try.f13 9) (Exit.then K2 (bodyPost Try.prog Try.f13 (FindPost w t rb mb S ov places (order.length + 1) (find R K.c lin K.wr K.us K.wp)))) a w1 → K7 a w1)
    (h2 : ∀ a w1, Code.wp Try.prog (.seq (rg Try.f13 10) (tl Try.f13 10)) (bodyPost Try.prog Try.f13 (FindPost w t rb mb S ov places (order.length + 1) (find R K.c lin K.wr K.us K.wp))) a w1 → K2 a w1) :
    Code.wp Try.prog (rg Try.f13 7) (Exit.then K1 (Exit.then K7 (Exit.then K2 (bodyPost Try.prog Try.f13 (FindPost w t rb mb S ov places (order.length + 1) (find R K.c lin K.wr K.us K.wp))))))
      ⟨#[.pointer (some ⟨t, 0, none⟩), .int .u32 (K.c : Nat), .int .u32 (lin : Nat), .agg #[.bool K.wr, .bool K.us, .bool K.wp], u4, u5, u6, .pointer (some ⟨gw, 0, none⟩), .pointer (some ⟨gr, 0, none⟩), u9, u10, .pointer (some ⟨gk, 0, none⟩), .pointer (some ⟨gx, 0, none⟩), u13, .int .u32 (R.read e.x.pde 4 : Nat), .int .u32 (R.read e.x.pte 4 : Nat), u16, u17, u18, u19, u20, u21, u22, u23, u24, u25, u26, u27, u28, u29, u30, u31, u32, u33, u34, u35, u36, u37, u38, u39, u40, u41, u42, u43, u44, u45, u46, u47, u48, u49, u50, u51, u52, u53, u54, u55, u56, u57, u58, u59, u60, u61, u62, u63, u64, u65, u66, u67, u68, u69, u70, u71, u72, u73, u74, u75, u76, u77, u78, u79, u80, u81, u82, u83, u84, u85, u86, u87, u88, u89, u90, u91, u92, u93, u94, u95, u96, u97, u98, u99, u100, u101, u102, u103, u104, u105, u106, u107, u108, u109, u110, u111, u112, u113, u114, u115, u116, u117, u118, u119, u120, u121, u122, u123, u124, u125, u126, u127, u128, u129, u130, u131, u132, u133, u134, u135, u136, u137, u138, u139, u140, u141, u142, u143, u144, u145, u146, u147, u148, u149, u150, u151, u152, u153, u154, u155, u156, u157, u158, u159, u160, u161, u162, u163, u164, u165, u166, u167, u168], []⟩ W := by
  have HL := Lib.hid hL
  have hO := H.O
  have v0 := cell_at (k := 0) hO
  have v1 := cell_at (k := 1) hO
  have v2 := cell_at (k := 2) hO
  have v3 := cell_at (k := 3) hO
  have v4 := cell_at (k := 4) hO
  have v5 := cell_at (k := 5) hO
  have v6 := cell_at (k := 6) hO
  have vl := heap_lt hO
  simp [entCells] at v0 v1 v2 v3 v4 v5 v6
  obtain ⟨-, -, ⟨x0, x1, x2, x3, x4⟩, xf, -, xl, -⟩ := H.b.L.facts
  have HB := Lib.hid H.b
  clear hL hO H
  conv => arg 2; whnf
  conv at h1 => enter [a, w1, 1, 2]; whnf
  conv at h7 => enter [a, w1, 1, 2]; whnf
  conv at h2 => enter [a, w1, 1, 2, 1]; whnf
  conv at h2 => enter [a, w1, 1, 2, 2]; whnf
  have hg1 : ((R.read e.x.pde 4 : Nat) : Int) = (e.a : Nat) := by omega
  have hg2 : ¬ ((R.read e.x.pte 4 : Nat) : Int) = (e.b : Nat) := by omega
  have hgb1 : (((R.read e.x.pde 4 : Nat) : Int) == (e.a : Nat)) = true := by simp; omega
  have hgb2 : (((R.read e.x.pte 4 : Nat) : Int) == (e.b : Nat)) = false := by simp; omega
  have HG1 := Lib.hid hg1
  clear hg1
  clear x0 x1 x2 x3 x4 xf xl hs
  go_upto_region 9 with (fail)
  exact find_p9 HB.out HL.out (by assumption)
end
end Go.Proofs.Ythogfhejfnmdkaa
