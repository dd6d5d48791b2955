/- 'drawloom/drawloomlaw16.VmemParts' answers true for every input. Conditions: none. -/
import Derived.Test.YtknokiadbkgmaaaFrame
import Derived.Test.YtknokiadbkgmaaaVmTop
import Derived.Test.YtknokiadbkgmaaaVmX
import Derived.Test.YtknokiadbkgmaaaPArgs
import Derived.Test.YtknokiadbkgmaaaVmIn
namespace Go.Proofs.Ytknokiadbkgmaaa.vmemParts
open Go.ChangeShapes Go.WideShapes Go.ChangeAt Go.RowKit
set_option linter.unusedVariables false

open Go.MapKept
theorem words_low {w w1 : World} {a : Option Addr} {len : Nat} {at_ v : Nat → Nat} (h : WordsIn w a len at_ v) (hb : Below w.heap.size w w1) : WordsIn w1 a len at_ v := by
  rcases h with h | ⟨b, o, e, h⟩
  · exact .inl h
  · exact .inr ⟨b, o, e, h.below hb⟩
theorem part_t (k : Int) : ((flatC k).cells.toArray.setIfInBounds 64 (.int .u32 2147483649)).setIfInBounds 66 (.int .u32 4096) = (partC k true).cells.toArray := by kernel_rfl
theorem part_f (k : Int) : (flatC k).cells.toArray = (partC k false).cells.toArray := by kernel_rfl
theorem part_ok (k : Int) (h1 : -4 < k) (h2 : k < 4) (pages : Bool) : (partC k pages).ok := by
  have h := flat_ok k h1 h2
  exact ⟨h.r, h.eip, h.flags, h.seg, (by show (if pages then 2147483649 else 1) < 4294967296; cases pages <;> decide), h.cr2, part_cr3 k pages, h.gb, h.gl, h.ib, h.il, h.tr⟩
theorem TB.sub {w0 w : World} {PA PB PC : World → (Nat → Prop) → Prop} {L L' : List (Nat × Obj)} (T : TB w0 w PA PB PC L) (h : ∀ p ∈ L', p ∈ L) : TB w0 w PA PB PC L' := by
  refine ⟨?_, fun p hp => T.2 p (h p hp)⟩
  obtain ⟨A, B, D, s, a, b, c, g⟩ := T.1
  exact ⟨A, B, D, s, a, b, c, fun k ⟨o, ho⟩ => g k ⟨o, h _ ho⟩⟩
theorem cpu_cells {W : World} {b : Nat} {k : Int} (h : W.heap[b]? = some (cpuO (flatC k))) : W.cell? ⟨b, 64, none⟩ = some (.int .u32 1) ∧ W.cell? ⟨b, 66, none⟩ = some (.int .u32 0) ∧ (∀ j, W.frozen? ⟨b, j, none⟩ = false) ∧ b < W.heap.size :=
  ⟨by rw [cell_at h]; rfl, by rw [cell_at h]; rfl, fun j => free_at h, heap_lt h⟩
theorem set_two {w W : World} {c : Nat} {k : Int} (h : NB w W [(c, cpuO (flatC k))]) : NB w ((W.setCell ⟨c, 64, none⟩ (.int .u32 2147483649)).setCell ⟨c, 66, none⟩ (.int .u32 4096)) [(c, cpuO (partC k true))] := by
  have h0 := h.get (g := c) (o := cpuO (flatC k)) (by simp)
  have b0 := (h.2 (c, cpuO (flatC k)) (by simp)).2
  refine ⟨(h.1.setCell b0 _).setCell b0 _, fun p hp => ?_⟩
  simp only [List.mem_cons, List.not_mem_nil, or_false] at hp
  subst hp
  refine ⟨?_, b0⟩
  show _ = some (cpuO (partC k true))
  unfold cpuO
  rw [← part_t]
  exact heap_set_same _ (heap_set_same _ h0)
/-- The first j bytes. -/
def psum (b : Nat → Nat) : Nat → Nat
  | 0 => 0
  | j + 1 => psum b j + b j * 256 ^ j
theorem psum_lt (b : Nat → Nat) : ∀ j, (∀ i, i < j → b i < 256) → psum b j < 256 ^ j
  | 0, _ => by show 0 < 256 ^ 0; decide
  | j + 1, h => by
    have h1 := psum_lt b j (fun i hi => h i (by omega))
    have h2 := h j (by omega)
    show psum b j + b j * 256 ^ j < 256 ^ (j + 1)
    have : b j * 256 ^ j ≤ 255 * 256 ^ j := Nat.mul_le_mul_right _ (by omega)
    rw [Nat.pow_succ]
    omega
theorem psum_next (b : Nat → Nat) (h : ∀ i, i < 4 → b i < 256) (j : Nat) (hj : j < 4) : ((psum b j : Int) + (b j : Int) * 2 ^ (8 * j) % 4294967296) % 4294967296 = ((psum b (j + 1) : Nat) : Int) := by
  have h1 := psum_lt b (j + 1) (fun i hi => h i (by omega))
  have h2 : (256 : Nat) ^ (j + 1) ≤ 256 ^ 4 := Nat.pow_le_pow_right (by decide) (by omega)
  have e : (b j : Int) * 2 ^ (8 * j) = ((b j * 256 ^ j : Nat) : Int) := by
    rw [Int.natCast_mul, Int.natCast_pow, show (2 : Int) ^ (8 * j) = (2 ^ 8) ^ j from Int.pow_mul]
    rfl
  rw [e]
  have h3 : psum b (j + 1) = psum b j + b j * 256 ^ j := rfl
  generalize b j * 256 ^ j = z at *
  omega
theorem fault_cells {W : World} {g : Nat} {a b : Int} {c : Nat} (h : W.heap[g]? = some (faultO a b c)) : W.cell? ⟨g, 0, none⟩ = some (.int .i64 a) ∧ W.cell? ⟨g, 1, none⟩ = some (.int .i64 b) ∧ W.cell? ⟨g, 2, none⟩ = some (.int .u32 (c : Nat)) ∧ g < W.heap.size :=
  ⟨by rw [cell_at h]; rfl, by rw [cell_at h]; rfl, by rw [cell_at h]; rfl, heap_lt h⟩
set_option maxRecDepth 100000 in
set_option maxHeartbeats 8000000 in
theorem parts_tail {w W : World} {c : Nat} {k ring : Int} {pages : Bool} (hC : NB w W [(c, cpuO (partC k pages))]) (hk1 : -4 < k) (hk2 : k < 4) {a0 : Option Addr} {n0 cc : Nat} {at0 v0 : Nat → Nat} (hm : n0 ≤ 9223372036854775807) (hW : WordsIn w a0 n0 at0 v0) {off : Nat} (ho : off < 4294967296) {u4 u5 u6 u7 u8 u11 u12 u13 u14 u15 u16 u17 u18 u19 u20 u21 u22 u23 u24 u25 u26 u27 u28 u29 u30 u31 u32 u33 u34 u35 u36 u37 u38 u39 u40 u41 u42 u43 u44 u45 u46 u47 u48 u49 u50 u51 u52 u53 u54 u55 u56 u57 u58 u59 u60 u61 u62 u63 u64 u65 u66 u67 u68 u69 u70 u71 u72 u73 u74 u75 u76 u77 u78 u79 u80 u81 u82 u83 u84 u85 u86 u87 u88 u89 u90 u91 u92 u93 u94 u95 u96 u97 u98 u99 u100 u101 u102 u103 u104 u105 u106 u107 u108 u109 u110 u111 u112 u113 : Value} {K : Act → World → Prop}
    (hK : ∀ a w1, Code.wp Try.prog (tl Try.f4 6) (bodyPost Try.prog Try.f4 fun e w' => e = .returned (.bool true) ∧ Below w.heap.size w w') a w1 → K a w1) :
    Code.wp Try.prog (rg Try.f4 6) (Exit.then K (bodyPost Try.prog Try.f4 fun e w' => e = .returned (.bool true) ∧ Below w.heap.size w w')) ⟨#[.slice a0 n0 cc, .int .u32 (off : Nat), .bool pages, .int .i64 ring, u4, u5, u6, u7, u8, .bool true, .pointer (some ⟨c, 0, none⟩), u11, u12, u13, u14, u15, u16, u17, u18, u19, u20, u21, u22, u23, u24, u25, u26, u27, u28, u29, u30, u31, u32, u33, u34, u35, u36, u37, u38, u39, u40, u41, u42, u43, u44, u45, u46, u47, u48, u49, u50, u51, u52, u53, u54, u55, u56, u57, u58, u59, u60, u61, u62, u63, u64, u65, u66, u67, u68, u69, u70, u71, u72, u73, u74, u75, u76, u77, u78, u79, u80, u81, u82, u83, u84, u85, u86, u87, u88, u89, u90, u91, u92, u93, u94, u95, u96, u97, u98, u99, u100, u101, u102, u103, u104, u105, u106, u107, u108, u109, u110, u111, u112, u113], []⟩ W := by
  have T0 := Lib.hid (TB.ofNB hC)
  have HW := Lib.hid hW
  have HMX := Lib.hid hm
  have HO := Lib.hid ho
  have HOK := Lib.hid (part_ok k hk1 hk2 pages)
  clear hW hm ho hC hk1 hk2
  conv => arg 2; whnf
  conv at hK => enter [a, w1, 1, 2]; whnf
  go_wp2_with fail
  refine (both_any W 16 a0 n0 cc at0 v0 (words_low HW.out T0.out.1.B) none 0 0 (fun _ => 0) (.inl rfl) HMX.out (by decide)).mono ?_
  rintro e w1 ⟨b1, S1, b1', S1', rfl, Tw⟩
  have T1 := Lib.hid (T0.out.both Nothing.local Nothing.local Tw)
  clear Tw T0
  go_wp2_with fail
  refine (TB.vnew T1.out Nothing.local Nothing.local (Wide.both _ _ _ _ _ _) 8 (by decide) 8 rfl).mono ?_
  rintro e w2 ⟨vb, rfl, Tv⟩
  have T2 := Lib.hid Tv
  clear Tv T1
  have HP : Hid (Plain (bothR 16 at0 v0 n0 (fun _ => 0) 0)) := Lib.hid (Plain.both _ _ _ _ _)
  generalize bothR 16 at0 v0 n0 (fun _ => 0) 0 = R at *
  obtain ⟨⟨⟨x, ⟨fv, fc, fa⟩⟩, R1⟩, hx⟩ : ∃ r, ld R (partC k pages) 3 off 4 = r := ⟨_, rfl⟩
  have HX := Lib.hid hx
  have HPW := Lib.hid (part_wide HP.out HO.out hx)
  clear hx
  go_wp2_with fail
  refine (TB.load (cb := c) (C := partC k pages) T2.out Nothing.local Nothing.local (by simp) HOK.out 3 off 4 HO.out (by decide) HX.out).mono ?_
  rintro e w3 ⟨rfl, Tc⟩
  have T3 := Lib.hid (Tc.alloc (VmO.local _ _ _ _) Nothing.local Nothing.local (faultO fv fc fa))
  clear Tc T2
  go_upto_region 11 with (fail)
  change Code.wp _ _ _ _ (w3.alloc (faultO fv fc fa))
  generalize w3.alloc (faultO fv fc fa) = w3x at *
  generalize w3.heap.size = g16 at *
  rcases HPW.out with ⟨hf | ⟨hf, b, hb, hsum⟩, hP1⟩
  · have HP1 := Lib.hid hP1
    clear hP1 HPW
    go_wp2_with fail
    go_loopw [17, 18] (fun y i wr => ∃ (j : Nat) (z : Int) (Rj : RS), j ≤ 4 ∧ i = .int .i64 j ∧ y = .int .u32 z ∧ Plain Rj ∧ TB w wr (VmO vb 8 (2 + 4 * j) Rj) Nothing Nothing [(g16, faultO fv fc fa), (c, cpuO (partC k pages))]) (fun _ i _ => 4 - (intOf i).toNat)
    case atStart => exact ⟨0, 0, R1, by decide, rfl, rfl, HP1.out, T3.out⟩
    case round =>
      clear HP1 T3
      obtain ⟨j, z, Rj, hj, rfl, rfl, hPj, hTj⟩ := hrel
      have HPJ := Lib.hid hPj
      have HTJ := Lib.hid hTj
      clear hPj hTj
      by_cases hlt : j < 4
      · obtain ⟨v, a, ⟨gv, gc, ga⟩, R2, h1, h2, hP2, hv, hg⟩ := part_step HPJ.out k pages ((off + j) % 4294967296) (Nat.mod_lt _ (by decide))
        have H1 := Lib.hid h1
        have H2 := Lib.hid h2
        have HP2 := Lib.hid hP2
        clear h1 h2 hP2 hg
        have ho := HO.out
        go_wp2_with fail
        refine (TB.load (cb := c) (C := partC k pages) HTJ.out Nothing.local Nothing.local (by simp) HOK.out 3 ((off + j) % 4294967296) 1 (Nat.mod_lt _ (by decide)) (by omega) H1.out).mono ?_
        rintro e w4 ⟨rfl, Tc⟩
        have T4 := Lib.hid (Tc.alloc (VmO.local _ _ _ _) Nothing.local Nothing.local (faultO gv gc ga))
        clear Tc HTJ
        go_upto_region 16 with (fail)
        change Code.wp _ _ _ _ (w4.alloc (faultO gv gc ga))
        generalize w4.alloc (faultO gv gc ga) = w4x at *
        generalize w4.heap.size = g20 at *
        go_wp2_with fail
        refine (TB.code (cb := c) (C := partC k pages) T4.out Nothing.local Nothing.local (by simp) HOK.out ((off + j) % 4294967296) (Nat.mod_lt _ (by decide)) (by omega) H2.out).mono ?_
        rintro e w5 ⟨rfl, Tc⟩
        have T5 := Lib.hid (Tc.alloc (VmO.local _ _ _ _) Nothing.local Nothing.local (faultO gv gc ga))
        clear Tc T4
        go_upto_region 17 with (fail)
        change Code.wp _ _ _ _ (w5.alloc (faultO gv gc ga))
        generalize w5.alloc (faultO gv gc ga) = w5x at *
        generalize w5.heap.size = g23 at *
        obtain ⟨x0, x1, x2, xl⟩ := fault_cells (T5.out.get (g := g16) (o := faultO fv fc fa) (by simp))
        obtain ⟨y0, y1, y2, yl⟩ := fault_cells (T5.out.get (g := g20) (o := faultO gv gc ga) (by simp))
        obtain ⟨z0, z1, z2, zl⟩ := fault_cells (T5.out.get (g := g23) (o := faultO gv gc ga) (by simp))
        have hw : IntKind.u32.wrap (v : Int) = (v : Int) := by rw [IntKind.wrap_u32]; omega
        have hf2 : ¬ fv < 0 := by omega
        have T6 := Lib.hid (TB.sub T5.out (L' := [(g16, faultO fv fc fa), (c, cpuO (partC k pages))]) (fun p hp => by simp at hp ⊢; rcases hp with h | h <;> simp [h]))
        clear T5
        by_cases hg : gv < 0
        · go_wp2_with fail
          refine ⟨⟨j + 1, _, R2, by omega, by go_num, rfl, HP2.out, ?_⟩, by simp [intOf]; omega⟩
          rw [show 2 + 4 * (j + 1) = 2 + 4 * j + 2 + 2 by omega]
          exact T6.out
        · have hg2 : 0 ≤ gv := by omega
          go_wp2_with fail
          refine ⟨⟨j + 1, _, R2, by omega, by go_num, rfl, HP2.out, ?_⟩, by simp [intOf]; omega⟩
          rw [show 2 + 4 * (j + 1) = 2 + 4 * j + 2 + 2 by omega]
          exact T6.out
      · obtain rfl : j = 4 := by omega
        obtain ⟨x0, x1, x2, xl⟩ := fault_cells (HTJ.out.get (g := g16) (o := faultO fv fc fa) (by simp))
        clear hlt hj
        go_wp2_with fail
        go_ret
        exact ⟨rfl, HTJ.out.1.B⟩
  · have HP1 := Lib.hid hP1
    have HB := Lib.hid hb
    have HSUM := Lib.hid hsum
    obtain ⟨rfl, rfl, rfl⟩ : fv = -1 ∧ fc = -1 ∧ fa = 0 := by
      injection hf with a b c
      exact ⟨a, b, c⟩
    clear hP1 HPW hf hb hsum
    go_wp2_with fail
    rw [show ((0 : Nat) : Int) = 0 from rfl]
    go_loopw [17, 18] (fun y i wr => ∃ j : Nat, j ≤ 4 ∧ i = .int .i64 j ∧ y = .int .u32 (psum b j : Nat) ∧ TB w wr (VmO vb 8 (2 + 4 * j) R1) Nothing Nothing [(g16, faultO (-1) (-1) 0), (c, cpuO (partC k pages))]) (fun _ i _ => 4 - (intOf i).toNat)
    case atStart => exact ⟨0, by decide, rfl, rfl, T3.out⟩
    case round =>
      clear T3
      obtain ⟨j, hj, rfl, rfl, hTj⟩ := hrel
      have HTJ := Lib.hid hTj
      clear hTj
      by_cases hlt : j < 4
      · obtain ⟨hv, a, h1, h2⟩ := HB.out j hlt
        have H1 := Lib.hid h1
        have H2 := Lib.hid h2
        have HS := Lib.hid (psum_next b (fun i hi => (HB.out i hi).1) j hlt)
        generalize b j = v at *
        clear h1 h2
        have ho := HO.out
        go_wp2_with fail
        refine (TB.load (cb := c) (C := partC k pages) HTJ.out Nothing.local Nothing.local (by simp) HOK.out 3 ((off + j) % 4294967296) 1 (Nat.mod_lt _ (by decide)) (by omega) H1.out).mono ?_
        rintro e w4 ⟨rfl, Tc⟩
        have T4 := Lib.hid (Tc.alloc (VmO.local _ _ _ _) Nothing.local Nothing.local (faultO (-1) (-1) 0))
        clear Tc HTJ
        go_upto_region 16 with (fail)
        change Code.wp _ _ _ _ (w4.alloc (faultO (-1) (-1) 0))
        generalize w4.alloc (faultO (-1) (-1) 0) = w4x at *
        generalize w4.heap.size = g20 at *
        go_wp2_with fail
        refine (TB.code (cb := c) (C := partC k pages) T4.out Nothing.local Nothing.local (by simp) HOK.out ((off + j) % 4294967296) (Nat.mod_lt _ (by decide)) (by omega) H2.out).mono ?_
        rintro e w5 ⟨rfl, Tc⟩
        have T5 := Lib.hid (Tc.alloc (VmO.local _ _ _ _) Nothing.local Nothing.local (faultO (-1) (-1) 0))
        clear Tc T4
        go_upto_region 17 with (fail)
        change Code.wp _ _ _ _ (w5.alloc (faultO (-1) (-1) 0))
        generalize w5.alloc (faultO (-1) (-1) 0) = w5x at *
        generalize w5.heap.size = g23 at *
        obtain ⟨x0, x1, x2, xl⟩ := fault_cells (T5.out.get (g := g16) (o := faultO (-1) (-1) 0) (by simp))
        obtain ⟨y0, y1, y2, yl⟩ := fault_cells (T5.out.get (g := g20) (o := faultO (-1) (-1) 0) (by simp))
        obtain ⟨z0, z1, z2, zl⟩ := fault_cells (T5.out.get (g := g23) (o := faultO (-1) (-1) 0) (by simp))
        simp at x2 y2 z2
        have hw : IntKind.u32.wrap (v : Int) = (v : Int) := by rw [IntKind.wrap_u32]; omega
        have T6 := Lib.hid (TB.sub T5.out (L' := [(g16, faultO (-1) (-1) 0), (c, cpuO (partC k pages))]) (fun p hp => by simp at hp ⊢; rcases hp with h | h <;> simp [h]))
        clear T5
        go_wp2_with fail
        refine ⟨⟨j + 1, by omega, by go_num, by rw [HS.out], ?_⟩, by simp [intOf]; omega⟩
        rw [show 2 + 4 * (j + 1) = 2 + 4 * j + 2 + 2 by omega]
        exact T6.out
      · obtain rfl : j = 4 := by omega
        obtain ⟨x0, x1, x2, xl⟩ := fault_cells (HTJ.out.get (g := g16) (o := faultO (-1) (-1) 0) (by simp))
        simp at x2
        have hs : psum b 4 = x := by rw [HSUM.out]; show 0 + b 0 * 256 ^ 0 + b 1 * 256 ^ 1 + b 2 * 256 ^ 2 + b 3 * 256 ^ 3 = _; omega
        rw [hs]
        clear hlt hj hs
        go_wp2_with fail
        go_ret
        exact ⟨rfl, HTJ.out.1.B⟩
set_option maxRecDepth 100000 in
set_option maxHeartbeats 8000000 in
theorem walk0 (a0 : Option Addr) (n0 cc : Nat) (at0 v0 : Nat → Nat) (hm : n0 ≤ 9223372036854775807) (w : World) (hW : WordsIn w a0 n0 at0 v0) (off : Nat) (ho : off < 4294967296) (pages : Bool) (ring : Int) :
    Calls Try.prog 4 #[.slice a0 n0 cc, .int .u32 (off : Nat), .bool pages, .int .i64 ring] w fun e w' => e = .returned (.bool true) ∧ Below w.heap.size w w' := by
  have HW := Lib.hid hW
  have HMX := Lib.hid hm
  have HO := Lib.hid ho
  have hz := fun w => zero83n w
  clear hW hm ho
  go_enter Try.func4, Try.ntmps4
  go_wp2_with fail
  refine (awake16 _).mono ?_
  rintro e w1 ⟨rfl, hb1⟩
  have HN1 := Lib.hid ((NB.start w).below hb1)
  clear hb1
  go_wp2_with fail
  refine (flat_any ring w1).mono ?_
  have hk0 : (ring.tmod 4).natAbs < 4 := by rw [Int.natAbs_tmod]; exact Nat.mod_lt _ (by decide)
  have hk1 : -4 < ring.tmod 4 := by omega
  have hk2 : ring.tmod 4 < 4 := by omega
  clear hk0
  have HK1 := Lib.hid hk1
  have HK2 := Lib.hid hk2
  clear hk1 hk2
  generalize ring.tmod 4 = k at *
  rintro e w2 ⟨rfl, hb2⟩
  have HN2 := Lib.hid (((HN1.out.below hb2).alloc (.cells zero83C 38)).setRow (flatC k).cells.toArray (old := zero83C) (T := 38) (g := w2.heap.size) (by simp) (L' := [(w2.heap.size, cpuO (flatC k))]) (fun p hp => by simp at hp; exact .inl hp))
  have HX2 := Lib.hid (heap_new w2 (.cells zero83C 38))
  clear hb2 HN1
  go_upto_region 3 with (first | (refine wpList_store_row rfl _ _ _ rfl w2.heap.size (flatC k).cells.toArray rfl rfl _ _ HX2.out info83 rfl (flat_one k) ?_))
  generalize (w2.alloc (.cells zero83C 38)).setRow w2.heap.size (flatC k).cells.toArray = w3 at *
  generalize w2.heap.size = c3 at *
  clear HX2 hz
  obtain ⟨p64, p66, pf, pl⟩ := cpu_cells (HN2.out.get (g := c3) (o := cpuO (flatC k)) (by simp))
  cases pages with
  | false =>
    have HC := Lib.hid (show NB w w3 [(c3, cpuO (partC k false))] by unfold cpuO; rw [← part_f]; exact HN2.out)
    go_upto_region 6 with (fail)
    exact parts_tail HC.out HK1.out HK2.out HMX.out HW.out HO.out (by assumption)
  | true =>
    have HC := Lib.hid (set_two HN2.out)
    go_upto_region 6 with (fail)
    change Code.wp _ _ _ _ ((w3.setCell ⟨c3, 64, none⟩ (.int .u32 2147483649)).setCell ⟨c3, 66, none⟩ (.int .u32 4096))
    generalize (w3.setCell ⟨c3, 64, none⟩ (.int .u32 2147483649)).setCell ⟨c3, 66, none⟩ (.int .u32 4096) = w6 at *
    exact parts_tail HC.out HK1.out HK2.out HMX.out HW.out HO.out (by assumption)
theorem walk (w : World) (a0 : Option Addr) (n0 c0 : Nat) (at0 v0 : Nat → Nat) (hm : n0 ≤ 9223372036854775807) (hW : WordsIn w a0 n0 at0 v0) (x1 : Int) (l1 : IntKind.u32.min ≤ x1) (u1 : x1 ≤ IntKind.u32.max) (pages : Bool) (ring : Int) (_ : IntKind.i64.min ≤ ring) (_ : ring ≤ IntKind.i64.max) :
    Calls Try.prog 4 #[.slice a0 n0 c0, .int .u32 x1, .bool pages, .int .i64 ring] w fun e w' => e = .returned (.bool true) ∧ Below w.heap.size w w' := by
  obtain ⟨off, h, ho⟩ := cell_n32 (c := .int .u32 x1) ⟨x1, rfl, l1, u1⟩
  rw [h]
  exact walk0 a0 n0 c0 at0 v0 hm w hW off ho pages ring

set_option maxRecDepth 100000 in
theorem lifted (os : Os) (started : os.Started) (H : Type) (enc : TypeId × Value → H) :
    ReturnsInHanded {} Try.checked os 4 .any (Rows.vmemPartsSpec.pre6 enc Try.prog Try.f4 Rows.vmemPartsRow.domain false) (Rows.vmemPartsSpec.post enc Try.prog Try.f4 false true false false) := by
  refine returnsInHanded_of_change (C := Try.checked) own started (by kernel_rfl) Try.func4
    (ChangeSpec.witness6 (enc := enc) (C := Try.checked) false ⟨#[], #[.slice none 0 0, .int .u32 0, .bool false, .int .i64 0], []⟩ 8 (by kernel_rfl) (by kernel_rfl) (by kernel_rfl) (by kernel_rfl)) ?_
  intro W base args ds gs before hval0 hW hcnd _
  have hval : ∀ (j : Nat) t v, Try.f4.params[j]? = some t → args[j]? = some v → Value.okWide Try.prog W .any base t v := hval0
  have hW' := hW
  obtain ⟨p, q, hA0, hV, rfl, hfz, hnd⟩ := hW
  have hA : DataW.TrodAll enc Try.prog W 0 (fun _ => true) true Try.f4.params.toList args.toList ds p := hA0
  rw [Try.params4] at hA hval
  obtain ⟨v0, vs0, d0, ds0, p0, q0, hargs, rfl, rfl, h0, r0⟩ := trodAll_cons hA
  obtain ⟨v1, vs1, d1, ds1, p1, q1, rfl, rfl, rfl, h1, r1⟩ := trodAll_cons r0
  obtain ⟨v2, vs2, d2, ds2, p2, q2, rfl, rfl, rfl, h2, r2⟩ := trodAll_cons r1
  obtain ⟨v3, vs3, d3, ds3, p3, q3, rfl, rfl, rfl, h3, r3⟩ := trodAll_cons r2
  obtain ⟨rfl, rfl, rfl⟩ := trodAll_nil r3
  obtain rfl : args = #[v0, v1, v2, v3] := by cases args; simp_all
  clear hA0 hval0
  obtain ⟨a0, n0, c0, t0, x0, rfl, m0, J0⟩ := arg_words (hval 0 27 v0 rfl rfl) h0
  obtain ⟨a1, rfl, l1, u1⟩ := arg_int Try.underlying23 (hval 1 23 v1 rfl rfl)
  obtain ⟨a2, rfl⟩ := arg_bool Try.underlying4 (hval 2 4 v2 rfl rfl)
  obtain ⟨a3, rfl, l3, u3⟩ := arg_int Try.underlying3 (hval 3 3 v3 rfl rfl)
  exact law_end (by kernel_rfl) hW' rfl (by kernel_rfl) Try.underlying4 rfl rfl (walk W a0 n0 c0 t0 x0 m0 J0 a1 l1 u1 a2 a3 l3 u3)

theorem proved : Rows.VmemPartsSaid :=
  OpenClaim.holds_of_wide 4 Try.f4 rfl rfl rfl rfl rfl rfl rfl ⟨rfl, rfl, rfl, rfl, rfl⟩ rfl rfl rfl rfl rfl (by kernel_rfl) Try.func4 (by kernel_rfl)
    (of_decide_eq_true (by kernel_rfl)) (by unfold Func.isWrapper; first | (rw [if_pos (by decide +kernel)]; kernel_rfl) | (rw [if_neg (by decide +kernel)]; exact ⟨rfl, rfl⟩))
    (fun os started H enc _ => lifted os started H enc)
#print axioms proved
end Go.Proofs.Ytknokiadbkgmaaa.vmemParts
