/- 'drawloom/drawloomlaw10.TlbDrops' answers true for every input. Conditions: none. -/
import Derived.Test.YthogfhejfnmdkaaFrame
import Derived.Test.YthogfhejfnmdkaaTlbQ
import Derived.Deep.CutRange
namespace Go.Proofs.Ythogfhejfnmdkaa.tlbDrops
open Go.ChangeShapes Go.WideShapes Go.ChangeAt Go.RowKit
set_option linter.unusedVariables false

open Go.MapKept
def BoxW (W : World) (g : Nat) (fr pd pt : Nat) (xw xu : Bool) : Prop := W.heap[g]? = some (.cells #[.int .u32 (fr : Nat), .int .u32 (pd : Nat), .int .u32 (pt : Nat), .bool xw, .bool xu] 38)
theorem BoxW.facts {W : World} {g fr pd pt : Nat} {xw xu : Bool} (h : BoxW W g fr pd pt xw xu) : W.cell? ⟨g, 0, none⟩ = some (.int .u32 (fr : Nat)) ∧ W.cell? ⟨g, 1, none⟩ = some (.int .u32 (pd : Nat)) ∧ W.cell? ⟨g, 2, none⟩ = some (.int .u32 (pt : Nat)) ∧ W.cell? ⟨g, 3, none⟩ = some (.bool xw) ∧ W.cell? ⟨g, 4, none⟩ = some (.bool xu) ∧ g < W.heap.size := by
  unfold BoxW at h
  refine ⟨?_, ?_, ?_, ?_, ?_, heap_lt h⟩ <;> (rw [cell_at h]; rfl)
theorem asks_five {w : World} {b off len : Nat} {cr lin : Nat → Nat} {wr us wp : Nat → Bool} (A : AsksAt w b off len cr lin wr us wp) (k : Nat) (hk : k < len) :
    w.cell? ⟨b, off + k * 5, none⟩ = some (.int .u32 (cr k : Nat)) ∧ w.cell? ⟨b, off + k * 5 + 1, none⟩ = some (.int .u32 (lin k : Nat)) ∧ w.cell? ⟨b, off + k * 5 + 2, none⟩ = some (.bool (wr k)) ∧ w.cell? ⟨b, off + k * 5 + 3, none⟩ = some (.bool (us k)) ∧ w.cell? ⟨b, off + k * 5 + 4, none⟩ = some (.bool (wp k)) :=
  ⟨A.c0 k hk, A.c1 k hk, A.c2 k hk, A.c3 k hk, A.c4 k hk⟩
theorem set5 {w3 : World} {g : Nat} (h : w3.heap[g]? = some (.cells #[.int .u32 0, .int .u32 0, .int .u32 0, .bool false, .bool false] 38)) (fr pd pt : Nat) (xw xu : Bool) :
    BoxW (((((w3.setCell ⟨g, 0, none⟩ (.int .u32 fr)).setCell ⟨g, 1, none⟩ (.int .u32 pd)).setCell ⟨g, 2, none⟩ (.int .u32 pt)).setCell ⟨g, 3, none⟩ (.bool xw)).setCell ⟨g, 4, none⟩ (.bool xu)) g fr pd pt xw xu ∧
    Keeps (· = g) w3 (((((w3.setCell ⟨g, 0, none⟩ (.int .u32 fr)).setCell ⟨g, 1, none⟩ (.int .u32 pd)).setCell ⟨g, 2, none⟩ (.int .u32 pt)).setCell ⟨g, 3, none⟩ (.bool xw)).setCell ⟨g, 4, none⟩ (.bool xu)) :=
  ⟨by unfold BoxW; simp only [heap_set_map, putObj_cells, h, Option.map_some, List.set_cons_succ, List.set_cons_zero], (((((Keeps.refl _ _).setOne _ _).setOne _ _).setOne _ _).setOne _ _).setOne _ _⟩
theorem box_set {w1 wr w3 wF : World} {PA PB PC : World → (Nat → Prop) → Prop} {F : Nat → Prop} {o : Obj} (T : Tri w1 w3 PA PB PC (fun j => F j ∨ j = wr.heap.size) (wr.alloc o).drew) (LA : Local PA) (LB : Local PB) (LC : Local PC)
    (h : w3.heap[wr.heap.size]? = some (.cells #[.int .u32 0, .int .u32 0, .int .u32 0, .bool false, .bool false] 38)) (hF : ∀ j, F j → wr.heap[j]? = wF.heap[j]? ∧ j < wr.heap.size) (fr pd pt : Nat) (xw xu : Bool) :
    Tri w1 (((((w3.setCell ⟨wr.heap.size, 0, none⟩ (.int .u32 fr)).setCell ⟨wr.heap.size, 1, none⟩ (.int .u32 pd)).setCell ⟨wr.heap.size, 2, none⟩ (.int .u32 pt)).setCell ⟨wr.heap.size, 3, none⟩ (.bool xw)).setCell ⟨wr.heap.size, 4, none⟩ (.bool xu)) PA PB PC (fun j => F j ∨ j = wr.heap.size)
      (((((w3.setCell ⟨wr.heap.size, 0, none⟩ (.int .u32 fr)).setCell ⟨wr.heap.size, 1, none⟩ (.int .u32 pd)).setCell ⟨wr.heap.size, 2, none⟩ (.int .u32 pt)).setCell ⟨wr.heap.size, 3, none⟩ (.bool xw)).setCell ⟨wr.heap.size, 4, none⟩ (.bool xu)) ∧
    BoxW (((((w3.setCell ⟨wr.heap.size, 0, none⟩ (.int .u32 fr)).setCell ⟨wr.heap.size, 1, none⟩ (.int .u32 pd)).setCell ⟨wr.heap.size, 2, none⟩ (.int .u32 pt)).setCell ⟨wr.heap.size, 3, none⟩ (.bool xw)).setCell ⟨wr.heap.size, 4, none⟩ (.bool xu)) wr.heap.size fr pd pt xw xu ∧
    ∀ j, F j → (((((w3.setCell ⟨wr.heap.size, 0, none⟩ (.int .u32 fr)).setCell ⟨wr.heap.size, 1, none⟩ (.int .u32 pd)).setCell ⟨wr.heap.size, 2, none⟩ (.int .u32 pt)).setCell ⟨wr.heap.size, 3, none⟩ (.bool xw)).setCell ⟨wr.heap.size, 4, none⟩ (.bool xu)).heap[j]? = wF.heap[j]? := by
  obtain ⟨s1, s2⟩ := set5 h fr pd pt xw xu
  refine ⟨T.touch LA LB LC (.inr rfl) s2, s1, fun j hj => ?_⟩
  obtain ⟨h1, h2⟩ := hF j hj
  have h3 : j < w3.heap.size := by obtain ⟨_, _, _, _, _, _, _, f⟩ := T; exact (f j (.inl hj)).1
  rw [s2.block j h3 (by omega), T.box (.inl hj), ← h1]
  exact Below.heap_alloc _ _ _ h2
set_option maxRecDepth 100000 in
set_option maxHeartbeats 4000000 in
theorem r15 {w1 wr wF : World} {F : Nat → Prop} {t b1 b2 k kb ko kl kc : Nat} {R R2 R' : RS} {cr lin : Nat → Nat} {fw fu fp : Nat → Bool} {fr pd pt : Nat} {xw xu : Bool} {cd : Int} (T : Tri w1 wr (KpP t b1 4 k R) (RamP b2 R2) (Nothing) F wF) (A : AsksAt w1 kb ko kl cr lin fw fu fp) (hk : k < kl) (hkn : (k + 1) * 12 ≤ 140737488355328) (hkl : kl ≤ 9223372036854775807)
    (hr : find R (cr k) (lin k) (fw k) (fu k) (fp k) = (⟨fr, pd, pt, xw, xu⟩, cd, R')) {Q : Exit → Act → World → Prop} {K : Act → World → Prop} {u0 u2 u3 u4 u5 u6 u7 u8 u9 u10 u11 u13 u15 u16 u17 u18 u19 u20 u21 u22 u23 u24 u25 u26 u27 u28 u29 u30 u31 u32 u33 u34 u35 u36 u37 u38 u39 u40 u41 u42 u43 u44 u45 u46 u47 u48 u49 u50 u51 u52 u53 u54 u55 u56 u57 u58 u59 u60 u61 u62 u63 u64 u65 u66 u67 u68 u69 u70 u71 u72 u73 u74 u75 u76 u77 u78 u79 u80 u81 u82 u83 u84 u85 u86 u87 u88 u89 u90 u91 u92 u93 u94 u95 u96 u97 u98 u99 u100 u101 u102 u103 u104 u105 u106 u107 u108 u109 u110 u111 u112 u113 u114 u115 u116 u117 u118 u119 u120 u121 u122 u123 u124 u125 u126 u127 : Value}
    (hK : ∀ gx w' (v70 v71 v72 v73 v74 v75 v76 v77 v78 v79 v80 v81 v82 v83 v84 v85 v86 v87 v88 v89 v90 : Value), Tri w1 w' (KpP t b1 4 (k + 1) R') (RamP b2 R2) (Nothing) (fun j => F j ∨ j = gx) w' → BoxW w' gx fr pd pt xw xu → (∀ j, F j → w'.heap[j]? = wF.heap[j]?) → K ⟨#[u0, .slice (some ⟨kb, ko, none⟩) kl kc, u2, u3, u4, u5, u6, u7, u8, u9, u10, u11, .pointer (some ⟨t, 0, none⟩), u13, .int .i64 (k : Nat), u15, .pointer (some ⟨gx, 0, none⟩), .int .i64 cd, .int .i64 0, u19, u20, u21, u22, u23, u24, u25, u26, u27, u28, u29, u30, u31, u32, u33, u34, u35, u36, u37, u38, u39, u40, u41, u42, u43, u44, u45, u46, u47, u48, u49, u50, u51, u52, u53, u54, u55, u56, u57, u58, u59, u60, u61, u62, u63, u64, u65, u66, u67, u68, u69, v70, v71, v72, v73, v74, v75, v76, v77, v78, v79, v80, v81, v82, v83, v84, v85, v86, v87, v88, v89, v90, u91, u92, u93, u94, u95, u96, u97, u98, u99, u100, u101, u102, u103, u104, u105, u106, u107, u108, u109, u110, u111, u112, u113, u114, u115, u116, u117, u118, u119, u120, u121, u122, u123, u124, u125, u126, u127], []⟩ w') :
    Code.wp Try.prog (rg Try.f4 15) (Exit.then K Q) ⟨#[u0, .slice (some ⟨kb, ko, none⟩) kl kc, u2, u3, u4, u5, u6, u7, u8, u9, u10, u11, .pointer (some ⟨t, 0, none⟩), u13, .int .i64 (k : Nat), u15, u16, u17, u18, u19, u20, u21, u22, u23, u24, u25, u26, u27, u28, u29, u30, u31, u32, u33, u34, u35, u36, u37, u38, u39, u40, u41, u42, u43, u44, u45, u46, u47, u48, u49, u50, u51, u52, u53, u54, u55, u56, u57, u58, u59, u60, u61, u62, u63, u64, u65, u66, u67, u68, u69, u70, u71, u72, u73, u74, u75, u76, u77, u78, u79, u80, u81, u82, u83, u84, u85, u86, u87, u88, u89, u90, u91, u92, u93, u94, u95, u96, u97, u98, u99, u100, u101, u102, u103, u104, u105, u106, u107, u108, u109, u110, u111, u112, u113, u114, u115, u116, u117, u118, u119, u120, u121, u122, u123, u124, u125, u126, u127], []⟩ wr := by
  have hu0 := A.u0 k hk
  have hu1 := A.u1 k hk
  have HA := Lib.hid A
  have HKK := Lib.hid hK
  have HKN := Lib.hid hkn
  have HR := Lib.hid hr
  have HT := Lib.hid T
  have q1 : (0 : Int) ≤ (k : Int) := by omega
  have q2 : (k : Int) < (kl : Int) := by omega
  have LA := KpP.local t b1 4 k R
  have LB := RamP.local b2 R2
  have LC := Nothing.local
  have HTd : Hid (Tri w1 wr.drew (KpP t b1 4 k R) (RamP b2 R2) (Nothing) F wF) := Lib.hid (T.below LA LB LC (Below.refl _ _).drew)
  have HTa : Hid (Tri w1 (wr.alloc (.cells #[.int .u32 0, .int .u32 0, .int .u32 0, .bool false, .bool false] 38)).drew (KpP t b1 4 k R) (RamP b2 R2) (Nothing) (fun j => F j ∨ j = wr.heap.size) (wr.alloc (.cells #[.int .u32 0, .int .u32 0, .int .u32 0, .bool false, .bool false] 38)).drew) := Lib.hid (T.boxes LA LB LC (((Below.refl _ wr).alloc (Nat.le_refl _) (.cells #[.int .u32 0, .int .u32 0, .int .u32 0, .bool false, .bool false] 38)).drew) (fun j h => h.imp id (fun h => ⟨by omega, by show j < (wr.alloc (.cells #[.int .u32 0, .int .u32 0, .int .u32 0, .bool false, .bool false] 38)).heap.size; simp; omega⟩)))
  have HZ : Hid ((wr.alloc (.cells #[.int .u32 0, .int .u32 0, .int .u32 0, .bool false, .bool false] 38)).drew.heap[wr.heap.size]? = some (.cells #[.int .u32 0, .int .u32 0, .int .u32 0, .bool false, .bool false] 38)) := Lib.hid (heap_new wr _)
  have HFW : Hid (∀ j, F j → wr.heap[j]? = wF.heap[j]? ∧ j < wr.heap.size) := Lib.hid (fun j h => ⟨T.box h, by obtain ⟨_, _, _, _, _, _, _, f⟩ := T; exact (f j h).1⟩)
  obtain ⟨c0, c1, c2, c3, c4⟩ := asks_five (A.below T.B) k hk
  have cb := Nat.lt_of_lt_of_le A.hb T.B.size
  clear A T hK hkn hr
  conv => arg 2; whnf
  go_wp2_with fail
  go_region_held3 (fun w' => w'.cell? ⟨kb, ko + k * 5, none⟩ = some (.int .u32 (cr k : Nat)) ∧ w'.cell? ⟨kb, ko + k * 5 + 1, none⟩ = some (.int .u32 (lin k : Nat)) ∧ w'.cell? ⟨kb, ko + k * 5 + 2, none⟩ = some (.bool (fw k)) ∧ w'.cell? ⟨kb, ko + k * 5 + 3, none⟩ = some (.bool (fu k)) ∧ w'.cell? ⟨kb, ko + k * 5 + 4, none⟩ = some (.bool (fp k)))
    (exact asks_five (HA.out.below (by repeat' (first | (with_reducible exact HTX.out.B) | (with_reducible exact HT.out.B) | (with_reducible refine Below.setCell ?_ (by first | exact HT.out.B.size | exact HTX.out.B.size) _) | (with_reducible refine below_dn ?_ _) | (with_reducible refine Below.drew ?_) | (with_reducible refine Below.alloc ?_ (by first | exact HTX.out.B.size | exact HT.out.B.size) _)))) k hk)
    (first
    | (go_at_call 13; refine (tri_find (w := wr.drew) HTd.out LB LC (cr k) (lin k) hu0 hu1 (fw k) (fu k) (fp k) HKN.out _ _ rfl rfl HR.out).mono ?_; rintro e w3 ⟨rfl, T3⟩; have HTX := Lib.hid T3; have q3 := asks_five (HA.out.below HTX.out.B) k hk; have HEND := Lib.hid (show Tri w1 (w3.alloc (.cells #[.int .u32 (fr : Nat), .int .u32 (pd : Nat), .int .u32 (pt : Nat), .bool xw, .bool xu] 38)) (KpP t b1 4 (k + 1) R') (RamP b2 R2) (Nothing) (fun j => F j ∨ j = w3.heap.size) (w3.alloc (.cells #[.int .u32 (fr : Nat), .int .u32 (pd : Nat), .int .u32 (pt : Nat), .bool xw, .bool xu] 38)) ∧ BoxW (w3.alloc (.cells #[.int .u32 (fr : Nat), .int .u32 (pd : Nat), .int .u32 (pt : Nat), .bool xw, .bool xu] 38)) w3.heap.size fr pd pt xw xu ∧ ∀ j, F j → (w3.alloc (.cells #[.int .u32 (fr : Nat), .int .u32 (pd : Nat), .int .u32 (pt : Nat), .bool xw, .bool xu] 38)).heap[j]? = wF.heap[j]? from ⟨T3.boxes (KpP.local t b1 4 (k + 1) R') LB LC ((Below.refl _ w3).alloc (Nat.le_refl _) _) (fun j h => h.imp id (fun h => ⟨by omega, by simp; omega⟩)), heap_new w3 _, fun j h => (Below.heap_alloc _ _ _ (by obtain ⟨_, _, _, _, _, _, _, f⟩ := T3; exact (f j h).1)).trans (T3.box h)⟩); clear T3)
    | (go_at_call 13; refine (tri_find (w := (wr.alloc (.cells #[.int .u32 0, .int .u32 0, .int .u32 0, .bool false, .bool false] 38)).drew) HTa.out LB LC (cr k) (lin k) hu0 hu1 (fw k) (fu k) (fp k) HKN.out _ _ rfl rfl HR.out).mono ?_; rintro e w3 ⟨rfl, T3⟩; have HTX := Lib.hid T3; have q3 := asks_five (HA.out.below HTX.out.B) k hk; have hx3 := (T3.box (.inr rfl)).trans HZ.out; have hf3 : ∀ j, w3.frozen? ⟨wr.heap.size, j, none⟩ = false := fun j => free_at hx3; have z0 : w3.cell? ⟨wr.heap.size, 0, .none⟩ = some (.int .u32 0) := (by rw [cell_at hx3]; rfl); have z1 : w3.cell? ⟨wr.heap.size, 1, .none⟩ = some (.int .u32 0) := (by rw [cell_at hx3]; rfl); have z2 : w3.cell? ⟨wr.heap.size, 2, .none⟩ = some (.int .u32 0) := (by rw [cell_at hx3]; rfl); have z3 : w3.cell? ⟨wr.heap.size, 3, .none⟩ = some (.bool false) := (by rw [cell_at hx3]; rfl); have z4 : w3.cell? ⟨wr.heap.size, 4, .none⟩ = some (.bool false) := (by rw [cell_at hx3]; rfl); have hl3 := heap_lt hx3; have HEND := Lib.hid (box_set T3 (KpP.local t b1 4 (k + 1) R') LB LC hx3 (fun j h => HFW.out j h) fr pd pt xw xu); clear hx3 T3))
  all_goals
    go_wp2_with fail
    exact HKK.out _ _ _ _ _ _ _ _ _ _ _ _ _ _ _ _ _ _ _ _ _ _ _ HEND.out.1 HEND.out.2.1 HEND.out.2.2
set_option maxRecDepth 100000 in
set_option maxHeartbeats 4000000 in
theorem r16 {w1 wr wF : World} {F : Nat → Prop} {t b1 b2 k kb ko kl kc : Nat} {R R2 R' : RS} {cr lin : Nat → Nat} {fw fu fp : Nat → Bool} {fr pd pt : Nat} {xw xu : Bool} {cd : Int} (T : Tri w1 wr (RamP b2 R) (Nothing) (KpP t b1 4 (k + 1) R2) F wF) (A : AsksAt w1 kb ko kl cr lin fw fu fp) (hk : k < kl) (hkn : (k + 1) * 12 ≤ 140737488355328) (hkl : kl ≤ 9223372036854775807)
    (hr : find R (cr k) (lin k) (fw k) (fu k) (fp k) = (⟨fr, pd, pt, xw, xu⟩, cd, R')) {Q : Exit → Act → World → Prop} {K : Act → World → Prop} {u0 u2 u3 u4 u5 u6 u7 u8 u9 u11 u12 u13 u15 u16 u17 u18 u19 u20 u21 u22 u23 u24 u25 u26 u27 u28 u29 u30 u31 u32 u33 u34 u35 u36 u37 u38 u39 u40 u41 u42 u43 u44 u45 u46 u47 u48 u49 u50 u51 u52 u53 u54 u55 u56 u57 u58 u59 u60 u61 u62 u63 u64 u65 u66 u67 u68 u69 u70 u71 u72 u73 u74 u75 u76 u77 u78 u79 u80 u81 u82 u83 u84 u85 u86 u87 u88 u89 u90 u91 u92 u93 u94 u95 u96 u97 u98 u99 u100 u101 u102 u103 u104 u105 u106 u107 u108 u109 u110 u111 u112 u113 u114 u115 u116 u117 u118 u119 u120 u121 u122 u123 u124 u125 u126 u127 : Value}
    (hK : ∀ gx w' (v91 v92 v93 v94 v95 v96 v97 v98 v99 v100 v101 v102 v103 v104 v105 v106 v107 v108 v109 v110 v111 : Value), Tri w1 w' (RamP b2 R') (Nothing) (KpP t b1 4 (k + 1) R2) (fun j => F j ∨ j = gx) w' → BoxW w' gx fr pd pt xw xu → (∀ j, F j → w'.heap[j]? = wF.heap[j]?) → K ⟨#[u0, .slice (some ⟨kb, ko, none⟩) kl kc, u2, u3, u4, u5, u6, u7, u8, u9, .pointer (some ⟨b2, 0, none⟩), u11, u12, u13, .int .i64 (k : Nat), u15, u16, u17, u18, .pointer (some ⟨gx, 0, none⟩), .int .i64 cd, .int .i64 0, u22, u23, u24, u25, u26, u27, u28, u29, u30, u31, u32, u33, u34, u35, u36, u37, u38, u39, u40, u41, u42, u43, u44, u45, u46, u47, u48, u49, u50, u51, u52, u53, u54, u55, u56, u57, u58, u59, u60, u61, u62, u63, u64, u65, u66, u67, u68, u69, u70, u71, u72, u73, u74, u75, u76, u77, u78, u79, u80, u81, u82, u83, u84, u85, u86, u87, u88, u89, u90, v91, v92, v93, v94, v95, v96, v97, v98, v99, v100, v101, v102, v103, v104, v105, v106, v107, v108, v109, v110, v111, u112, u113, u114, u115, u116, u117, u118, u119, u120, u121, u122, u123, u124, u125, u126, u127], []⟩ w') :
    Code.wp Try.prog (rg Try.f4 16) (Exit.then K Q) ⟨#[u0, .slice (some ⟨kb, ko, none⟩) kl kc, u2, u3, u4, u5, u6, u7, u8, u9, .pointer (some ⟨b2, 0, none⟩), u11, u12, u13, .int .i64 (k : Nat), u15, u16, u17, u18, u19, u20, u21, u22, u23, u24, u25, u26, u27, u28, u29, u30, u31, u32, u33, u34, u35, u36, u37, u38, u39, u40, u41, u42, u43, u44, u45, u46, u47, u48, u49, u50, u51, u52, u53, u54, u55, u56, u57, u58, u59, u60, u61, u62, u63, u64, u65, u66, u67, u68, u69, u70, u71, u72, u73, u74, u75, u76, u77, u78, u79, u80, u81, u82, u83, u84, u85, u86, u87, u88, u89, u90, u91, u92, u93, u94, u95, u96, u97, u98, u99, u100, u101, u102, u103, u104, u105, u106, u107, u108, u109, u110, u111, u112, u113, u114, u115, u116, u117, u118, u119, u120, u121, u122, u123, u124, u125, u126, u127], []⟩ wr := by
  have hu0 := A.u0 k hk
  have hu1 := A.u1 k hk
  have HA := Lib.hid A
  have HKK := Lib.hid hK
  have HKN := Lib.hid hkn
  have HR := Lib.hid hr
  have HT := Lib.hid T
  have q1 : (0 : Int) ≤ (k : Int) := by omega
  have q2 : (k : Int) < (kl : Int) := by omega
  have LA := RamP.local b2 R
  have LB := Nothing.local
  have LC := KpP.local t b1 4 (k + 1) R2
  have HTd : Hid (Tri w1 wr.drew (RamP b2 R) (Nothing) (KpP t b1 4 (k + 1) R2) F wF) := Lib.hid (T.below LA LB LC (Below.refl _ _).drew)
  have HTa : Hid (Tri w1 (wr.alloc (.cells #[.int .u32 0, .int .u32 0, .int .u32 0, .bool false, .bool false] 38)).drew (RamP b2 R) (Nothing) (KpP t b1 4 (k + 1) R2) (fun j => F j ∨ j = wr.heap.size) (wr.alloc (.cells #[.int .u32 0, .int .u32 0, .int .u32 0, .bool false, .bool false] 38)).drew) := Lib.hid (T.boxes LA LB LC (((Below.refl _ wr).alloc (Nat.le_refl _) (.cells #[.int .u32 0, .int .u32 0, .int .u32 0, .bool false, .bool false] 38)).drew) (fun j h => h.imp id (fun h => ⟨by omega, by show j < (wr.alloc (.cells #[.int .u32 0, .int .u32 0, .int .u32 0, .bool false, .bool false] 38)).heap.size; simp; omega⟩)))
  have HZ : Hid ((wr.alloc (.cells #[.int .u32 0, .int .u32 0, .int .u32 0, .bool false, .bool false] 38)).drew.heap[wr.heap.size]? = some (.cells #[.int .u32 0, .int .u32 0, .int .u32 0, .bool false, .bool false] 38)) := Lib.hid (heap_new wr _)
  have HFW : Hid (∀ j, F j → wr.heap[j]? = wF.heap[j]? ∧ j < wr.heap.size) := Lib.hid (fun j h => ⟨T.box h, by obtain ⟨_, _, _, _, _, _, _, f⟩ := T; exact (f j h).1⟩)
  obtain ⟨c0, c1, c2, c3, c4⟩ := asks_five (A.below T.B) k hk
  have cb := Nat.lt_of_lt_of_le A.hb T.B.size
  clear A T hK hkn hr
  conv => arg 2; whnf
  go_wp2_with fail
  go_region_held3 (fun w' => w'.cell? ⟨kb, ko + k * 5, none⟩ = some (.int .u32 (cr k : Nat)) ∧ w'.cell? ⟨kb, ko + k * 5 + 1, none⟩ = some (.int .u32 (lin k : Nat)) ∧ w'.cell? ⟨kb, ko + k * 5 + 2, none⟩ = some (.bool (fw k)) ∧ w'.cell? ⟨kb, ko + k * 5 + 3, none⟩ = some (.bool (fu k)) ∧ w'.cell? ⟨kb, ko + k * 5 + 4, none⟩ = some (.bool (fp k)))
    (exact asks_five (HA.out.below (by repeat' (first | (with_reducible exact HTX.out.B) | (with_reducible exact HT.out.B) | (with_reducible refine Below.setCell ?_ (by first | exact HT.out.B.size | exact HTX.out.B.size) _) | (with_reducible refine below_dn ?_ _) | (with_reducible refine Below.drew ?_) | (with_reducible refine Below.alloc ?_ (by first | exact HTX.out.B.size | exact HT.out.B.size) _)))) k hk)
    (first
    | (go_at_call 14; refine (tri_rfind (w := wr.drew) HTd.out LB LC (cr k) (lin k) hu0 hu1 (fw k) (fu k) (fp k) _ _ rfl rfl HR.out).mono ?_; rintro e w3 ⟨rfl, T3⟩; have HTX := Lib.hid T3; have q3 := asks_five (HA.out.below HTX.out.B) k hk; have HEND := Lib.hid (show Tri w1 (w3.alloc (.cells #[.int .u32 (fr : Nat), .int .u32 (pd : Nat), .int .u32 (pt : Nat), .bool xw, .bool xu] 38)) (RamP b2 R') (Nothing) (KpP t b1 4 (k + 1) R2) (fun j => F j ∨ j = w3.heap.size) (w3.alloc (.cells #[.int .u32 (fr : Nat), .int .u32 (pd : Nat), .int .u32 (pt : Nat), .bool xw, .bool xu] 38)) ∧ BoxW (w3.alloc (.cells #[.int .u32 (fr : Nat), .int .u32 (pd : Nat), .int .u32 (pt : Nat), .bool xw, .bool xu] 38)) w3.heap.size fr pd pt xw xu ∧ ∀ j, F j → (w3.alloc (.cells #[.int .u32 (fr : Nat), .int .u32 (pd : Nat), .int .u32 (pt : Nat), .bool xw, .bool xu] 38)).heap[j]? = wF.heap[j]? from ⟨T3.boxes (RamP.local b2 R') LB LC ((Below.refl _ w3).alloc (Nat.le_refl _) _) (fun j h => h.imp id (fun h => ⟨by omega, by simp; omega⟩)), heap_new w3 _, fun j h => (Below.heap_alloc _ _ _ (by obtain ⟨_, _, _, _, _, _, _, f⟩ := T3; exact (f j h).1)).trans (T3.box h)⟩); clear T3)
    | (go_at_call 14; refine (tri_rfind (w := (wr.alloc (.cells #[.int .u32 0, .int .u32 0, .int .u32 0, .bool false, .bool false] 38)).drew) HTa.out LB LC (cr k) (lin k) hu0 hu1 (fw k) (fu k) (fp k) _ _ rfl rfl HR.out).mono ?_; rintro e w3 ⟨rfl, T3⟩; have HTX := Lib.hid T3; have q3 := asks_five (HA.out.below HTX.out.B) k hk; have hx3 := (T3.box (.inr rfl)).trans HZ.out; have hf3 : ∀ j, w3.frozen? ⟨wr.heap.size, j, none⟩ = false := fun j => free_at hx3; have z0 : w3.cell? ⟨wr.heap.size, 0, .none⟩ = some (.int .u32 0) := (by rw [cell_at hx3]; rfl); have z1 : w3.cell? ⟨wr.heap.size, 1, .none⟩ = some (.int .u32 0) := (by rw [cell_at hx3]; rfl); have z2 : w3.cell? ⟨wr.heap.size, 2, .none⟩ = some (.int .u32 0) := (by rw [cell_at hx3]; rfl); have z3 : w3.cell? ⟨wr.heap.size, 3, .none⟩ = some (.bool false) := (by rw [cell_at hx3]; rfl); have z4 : w3.cell? ⟨wr.heap.size, 4, .none⟩ = some (.bool false) := (by rw [cell_at hx3]; rfl); have hl3 := heap_lt hx3; have HEND := Lib.hid (box_set T3 (RamP.local b2 R') LB LC hx3 (fun j h => HFW.out j h) fr pd pt xw xu); clear hx3 T3))
  all_goals
    go_wp2_with fail
    exact HKK.out _ _ _ _ _ _ _ _ _ _ _ _ _ _ _ _ _ _ _ _ _ _ _ HEND.out.1 HEND.out.2.1 HEND.out.2.2
/-- Numbers that came in. -/
theorem ints_cell {w : World} {b off len : Nat} {z : Nat → Int} {w' : World} (h : ∀ i, i < len → w.cell? ⟨b, off + i, none⟩ = some (.int .u32 (z i)) ∧ IntKind.u32.min ≤ z i ∧ z i ≤ IntKind.u32.max) (hl : b < w.heap.size) (hb : Below w.heap.size w w') (k : Nat) (hk : k < len) : w'.cell? ⟨b, off + k, none⟩ = some (.int .u32 (z k)) := (hb.cell hl).trans (h k hk).1
def DRel (w1 wr : World) (t b1 b2 k : Nat) : Prop := ∃ R wF, Tri w1 wr (KpP t b1 4 k R) (RamP b2 R) Nothing none_ wF
set_option maxRecDepth 100000 in
set_option maxHeartbeats 4000000 in
theorem walk (w : World) (ad : Option Addr) (len cap : Nat) (at_ x : Nat → Nat) (hlen : len ≤ 9223372036854775807) (J : WordsIn w ad len at_ x)
    (kd : Option Addr) (kl kc : Nat) (cr lin : Nat → Nat) (fw fu fp : Nat → Bool) (hkl : kl ≤ 9223372036854775807) (A : AsksIn w kd kl cr lin fw fu fp) (hreach : kl * 12 ≤ 140737488351232)
    (dd : Option Addr) (dl dc : Nat) (z : Nat → Int) (hdl : dl ≤ 9223372036854775807) (D : IntsIn .u32 w dd dl z) :
    Calls Try.prog 4 #[.slice ad len cap, .slice kd kl kc, .slice dd dl dc] w fun e w' => e = .returned (.bool true) ∧ Below w.heap.size w w' := by
  have HRE := Lib.hid (show kl * 12 ≤ 140737488355328 by omega)
  have HLEN := Lib.hid hlen
  clear hreach hlen
  go_enter Try.func4, Try.ntmps4
  go_wp2_with fail
  refine (awake_any _).mono ?_
  rintro e w1 ⟨rfl, B1⟩
  have HB1 := Lib.hid B1
  have HA1 := Lib.hid (A.below B1)
  have HD := Lib.hid D
  have HJ1 := Lib.hid (words_below J B1)
  clear A J B1 D
  go_wp2_with fail
  refine (both_any w1 16 ad len cap at_ x HJ1.out .none 0 0 (fun _ => 0) (.inl rfl) HLEN.out (by decide)).mono ?_
  rintro e w2 ⟨b1, S1, b1', S1', rfl, T1⟩
  have HU1 := Lib.hid (tri_both (Tri.zero w1) Nothing.local Nothing.local T1)
  have HJ2 := Lib.hid (words_below HJ1.out T1.B)
  clear T1
  go_wp2_with fail
  refine (both_any w2 16 ad len cap at_ x HJ2.out .none 0 0 (fun _ => 0) (.inl rfl) HLEN.out (by decide)).mono ?_
  rintro e w3 ⟨b2, S2, b2', S2', rfl, T2⟩
  have HU2 := Lib.hid (tri_both HU1.out.rot Nothing.local (RamP.local _ _) T2).rot.rot
  have HWD := Lib.hid (Wide.both 16 at_ x len (fun _ => 0) 0)
  clear T2
  generalize bothR 16 at_ x len (fun _ => 0) 0 = R0 at *
  go_wp2_with fail
  refine (tri_new HU2.out (RamP.local _ _) Nothing.local HWD.out 4 (by decide) _ rfl).mono ?_
  rintro e w5 ⟨t, rfl, T4⟩
  have HU4 := Lib.hid (T4.weak (PA' := KpP t b1 4 0 R0) fun _ h => ⟨_, h⟩)
  clear T4 HU1 HU2 HJ1 HJ2 HWD
  go_wp2_with fail
  go_loopw [14] (fun i wr => ∃ k : Nat, k ≤ kl ∧ i = .int .i64 k ∧ DRel w1 wr t b1 b2 k) (fun i _ => kl - (intOf i).toNat)
  case atStart => exact ⟨0, by omega, rfl, R0, _, HU4.out⟩
  case round =>
    clear HU4
    obtain ⟨k, hk, rfl, R, wF, T0⟩ := hrel
    have HT0 := Lib.hid T0
    clear T0
    by_cases hlt : k < kl
    · obtain ⟨kb, ko, rfl, A2⟩ : ∃ b off, kd = some ⟨b, off, none⟩ ∧ AsksAt w1 b off kl cr lin fw fu fp := by
        rcases HA1.out with h | h
        · omega
        · exact h
      have HA2 := Lib.hid A2
      have HLT := Lib.hid hlt
      have HKL := Lib.hid hkl
      have HKN := Lib.hid (show (k + 1) * 12 ≤ 140737488355328 by have := HRE.out; omega)
      rcases hr : find R (cr k) (lin k) (fw k) (fu k) (fp k) with ⟨⟨fr, pd, pt, xw, xu⟩, cd, R'⟩
      have HR := Lib.hid hr
      clear A2 hr
      by_cases hd : k < dl
      · obtain ⟨db, d0, rfl, hdb, hdz⟩ : ∃ b off, dd = some ⟨b, off, none⟩ ∧ b < w.heap.size ∧ ∀ i, i < dl → w.cell? ⟨b, off + i, none⟩ = some (.int .u32 (z i)) ∧ IntKind.u32.min ≤ z i ∧ z i ≤ IntKind.u32.max := by
          rcases HD.out with h | ⟨b, off, e, h1, h2⟩
          · omega
          · exact ⟨b, off, e, h1, h2⟩
        have hz0 : (0 : Int) ≤ z k := (hdz k hd).2.1
        have hz1 : z k < 4294967296 := Int.lt_of_le_of_lt (hdz k hd).2.2 (by decide)
        have hc : wr.cell? ⟨db, d0 + k, none⟩ = some (.int .u32 (z k)) := ints_cell hdz hdb (HB1.out.trans (HT0.out.B.mono HB1.out.size)) k hd
        have hcl : db < wr.heap.size := Nat.lt_of_lt_of_le hdb (Nat.le_trans HB1.out.size HT0.out.B.size)
        have q1 : (0 : Int) ≤ (k : Int) := by omega
        have q2 : (k : Int) < (dl : Int) := by omega
        obtain ⟨zk, hzk⟩ := Int.eq_ofNat_of_zero_le hz0
        have hzl : zk < 4294967296 := by omega
        rw [hzk] at hc
        have HZK := Lib.hid hzl
        clear hdz hz0 hz1 hzk hzl
        go_wp2_with fail
        refine (tri_kept HT0.out).mono ?_
        rintro e wz ⟨c0, rfl, hc0, T, rfl⟩
        have HT1 := Lib.hid T
        have hc64 : c0 ≤ 64 := by omega
        clear T hc0
        go_wp2_with fail
        refine (tri_dropc HT1.out (RamP.local _ _) Nothing.local zk HZK.out _ rfl).mono ?_
        rintro e w7 ⟨rfl, c1, hc1, T⟩
        have HT2 := Lib.hid T
        have hcc : ¬ (c0 : Int) < (c1 : Int) := by omega
        clear T HT1 hc hcl
        go_wp2_with fail
        refine (tri_keptc HT2.out).mono ?_
        rintro e wz ⟨rfl, rfl⟩
        clear HT0
        have HT0 := Lib.hid (tri_known HT2.out)
        clear HT2
        go_upto_region 15 with (fail)
        clear hcc hc1 hc64 q1 q2
        refine r15 HT0.out HA2.out HLT.out HKN.out HKL.out HR.out ?_
        intro gx w8 a70 a71 a72 a73 a74 a75 a76 a77 a78 a79 a80 a81 a82 a83 a84 a85 a86 a87 a88 a89 a90 T8 X8 _
        have HT8 := Lib.hid T8.rot
        have HX8 := Lib.hid X8
        clear T8 X8 HT0
        go_upto_region 16 with (fail)
        refine r16 HT8.out HA2.out HLT.out HKN.out HKL.out HR.out ?_
        intro gy w9 a91 a92 a93 a94 a95 a96 a97 a98 a99 a100 a101 a102 a103 a104 a105 a106 a107 a108 a109 a110 a111 T9 X9 hF9
        have HT9 := Lib.hid T9
        have HX9 := Lib.hid X9
        obtain ⟨y0, y1, y2, y3, y4, yl⟩ := BoxW.facts ((hF9 gx (.inr rfl)).trans HX8.out)
        obtain ⟨v0, v1, v2, v3, v4, vl⟩ := X9.facts
        clear T9 X9 hF9 HT8 HX8 HX9
        go_wp2_with fail
        go_roundw
        case rel => exact ⟨k + 1, by have := HLT.out; omega, by go_num, _, _, HT9.out.rot.rot.drop⟩
        case measure => have := HLT.out; simp [intOf]; omega
      · have q2 : ¬ (k : Int) < (dl : Int) := by omega
        clear hd
        go_upto_region 15 with (fail)
        refine r15 HT0.out HA2.out HLT.out HKN.out HKL.out HR.out ?_
        intro gx w8 a70 a71 a72 a73 a74 a75 a76 a77 a78 a79 a80 a81 a82 a83 a84 a85 a86 a87 a88 a89 a90 T8 X8 _
        have HT8 := Lib.hid T8.rot
        have HX8 := Lib.hid X8
        clear T8 X8 HT0
        go_upto_region 16 with (fail)
        refine r16 HT8.out HA2.out HLT.out HKN.out HKL.out HR.out ?_
        intro gy w9 a91 a92 a93 a94 a95 a96 a97 a98 a99 a100 a101 a102 a103 a104 a105 a106 a107 a108 a109 a110 a111 T9 X9 hF9
        have HT9 := Lib.hid T9
        have HX9 := Lib.hid X9
        obtain ⟨y0, y1, y2, y3, y4, yl⟩ := BoxW.facts ((hF9 gx (.inr rfl)).trans HX8.out)
        obtain ⟨v0, v1, v2, v3, v4, vl⟩ := X9.facts
        clear T9 X9 hF9 HT8 HX8 HX9
        go_wp2_with fail
        go_roundw
        case rel => exact ⟨k + 1, by have := HLT.out; omega, by go_num, _, _, HT9.out.rot.rot.drop⟩
        case measure => have := HLT.out; simp [intOf]; omega
    · go_wp2_with fail
      go_returns
      exact ⟨rfl, step_below HB1.out HT0.out.B (Nat.le_refl _)⟩

set_option maxRecDepth 100000 in
theorem lifted (os : Os) (started : os.Started) (H : Type) (enc : TypeId × Value → H) :
    ReturnsInHanded {} Try.checked os 4 .any (Rows.tlbDropsSpec.pre6 enc Try.prog Try.f4 Rows.tlbDropsRow.domain false) (Rows.tlbDropsSpec.post enc Try.prog Try.f4 false true false false) := by
  refine returnsInHanded_of_change_sized (C := Try.checked) own started (by kernel_rfl) Try.func4
    (ChangeSpec.witness6 (enc := enc) (C := Try.checked) false ⟨#[], #[.slice none 0 0, .slice none 0 0, .slice none 0 0], []⟩ 8 (by kernel_rfl) (by kernel_rfl) (by kernel_rfl) (by kernel_rfl)) ?_
  intro W base args ds gs before hval0 hW hcnd hsz _
  have hval : ∀ (j : Nat) t v, Try.f4.params[j]? = some t → args[j]? = some v → Value.okWide Try.prog W .any base t v := hval0
  have hW' := hW
  obtain ⟨p, q, hA0, hV, rfl, hfz, hnd⟩ := hW
  have hA : DataW.TrodAll enc Try.prog W 0 (fun _ => true) true Try.f4.params.toList args.toList ds p := hA0
  rw [Try.params4] at hA hval
  obtain ⟨v0, vs0, d0, ds0, p0, q0, hargs, rfl, rfl, h0, r0⟩ := trodAll_cons hA
  obtain ⟨v1, vs1, d1, ds1, p1, q1, rfl, rfl, rfl, h1, r1⟩ := trodAll_cons r0
  obtain ⟨v2, vs2, d2, ds2, p2, q2, rfl, rfl, rfl, h2, r2⟩ := trodAll_cons r1
  obtain ⟨rfl, rfl, rfl⟩ := trodAll_nil r2
  obtain rfl : args = #[v0, v1, v2] := by cases args; simp_all
  clear hA0 hval0
  obtain ⟨a0, n0, c0, t0, x0, rfl, m0, J0⟩ := arg_words (hval 0 23 v0 rfl rfl) h0
  obtain ⟨a1, n1, c1, cr1, ln1, wr1, us1, wp1, rfl, m1, J1⟩ := arg_asks (hval 1 24 v1 rfl rfl) h1
  have R1 : n1 * Try.prog.bytesOf 44 ≤ 140737488351232 := arg_reach (j := 1) hsz rfl rfl Try.underlying24 h1
  rw [show Try.prog.bytesOf 44 = 12 by kernel_rfl] at R1
  obtain ⟨a2, n2, c2, z2, rfl, m2, J2⟩ := arg_ints Try.underlying25 Try.underlying36 (by kernel_rfl) (hval 2 25 v2 rfl rfl) h2
  exact law_end (by kernel_rfl) hW' rfl (by kernel_rfl) Try.underlying4 rfl rfl (walk W a0 n0 c0 t0 x0 m0 J0 a1 n1 c1 cr1 ln1 wr1 us1 wp1 m1 J1 R1 a2 n2 c2 z2 m2 J2)

theorem proved : Rows.TlbDropsSaid :=
  OpenClaim.holds_of_wide 4 Try.f4 rfl rfl rfl rfl rfl rfl rfl ⟨rfl, rfl, rfl, rfl, rfl⟩ rfl rfl rfl rfl rfl (by kernel_rfl) Try.func4 (by kernel_rfl)
    (of_decide_eq_true (by kernel_rfl)) (by unfold Func.isWrapper; first | (rw [if_pos (by decide +kernel)]; kernel_rfl) | (rw [if_neg (by decide +kernel)]; exact ⟨rfl, rfl⟩))
    (fun os started H enc _ => lifted os started H enc)
#print axioms proved
end Go.Proofs.Ythogfhejfnmdkaa.tlbDrops
