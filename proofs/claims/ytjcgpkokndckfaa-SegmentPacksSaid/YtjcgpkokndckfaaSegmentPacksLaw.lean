/- 'drawloom/drawloomlaw08.SegmentPacks' answers true for every input. Conditions: none. -/
import Derived.Test.YtjcgpkokndckfaaFrame
import Derived.Test.YtjcgpkokndckfaaSegAwake
import Derived.Test.YtjcgpkokndckfaaSegPack
import Derived.Test.YtjcgpkokndckfaaSegOpen
import Derived.Deep.RegionHeld3
namespace Go.Proofs.Ytjcgpkokndckfaa.segmentPacks
open Go.ChangeShapes Go.WideShapes Go.ChangeAt Go.RowKit
set_option linter.unusedVariables false

theorem heap_belowB (B : Nat) {W w1 : World} {b : Nat} {o : Obj} (hb : Below W.heap.size W w1) (h : W.heap[b]? = some o) : w1.heap[b]? = some o := by
  rw [hb.block b ((Array.getElem?_eq_some_iff.1 h).1)]; exact h
theorem box_cells {w : World} {n : Nat} {c0 c1 c2 c3 c4 c5 c6 : Value} {T : TypeId} (h : w.heap[n]? = some (.cells #[c0, c1, c2, c3, c4, c5, c6] T)) :
    w.cell? ⟨n, 0, none⟩ = some c0 ∧ w.cell? ⟨n, 1, none⟩ = some c1 ∧ w.cell? ⟨n, 2, none⟩ = some c2 ∧ w.cell? ⟨n, 3, none⟩ = some c3 ∧ w.cell? ⟨n, 4, none⟩ = some c4 ∧ w.cell? ⟨n, 5, none⟩ = some c5 ∧ w.cell? ⟨n, 6, none⟩ = some c6 := by
  refine ⟨?_, ?_, ?_, ?_, ?_, ?_, ?_⟩ <;> simp [World.cell?, h]
set_option maxHeartbeats 4000000 in
theorem walk_ok (b l t p : Int) (s r g : Bool) (l0 : 0 ≤ l) (l1 : l < 4294967296) (lo hi : Int) (hP : Packs b l t p s r g lo hi) (hk : packed l t p = true)
    (hpack : ∀ w, Calls Try.prog 12 #[.agg #[.int .u32 b, .int .u32 l, .int .i64 t, .bool s, .int .i64 p, .bool r, .bool g]] w fun e w' => e = .returned (.tuple #[.int .u32 lo, .int .u32 hi, .int .i64 0]) ∧ Below w.heap.size w w') (w : World) :
    Calls Try.prog 7 #[.agg #[.int .u32 b, .int .u32 l, .int .i64 t, .bool s, .int .i64 p, .bool r, .bool g]] w fun e w' => e = .returned (.bool true) ∧ Below w.heap.size w w' := by
  have HP := Lib.hid hP
  have HC := Lib.hid hpack
  have HK := Lib.hid hk
  have lo0 := hP.lo0
  have lo1 := hP.lo1
  have hi0 := hP.hi0
  have hi1 := hP.hi1
  have z21 : hi / 2097152 % 2 = 0 := hP.z21
  have z23 : ((hi / 8388608 % 2 == 1) == decide (1048575 < l)) = true := by
    have := hP.z23
    by_cases h : 1048575 < l
    · simp [h, this.2 h]
    · have h2 : ¬ hi / 8388608 % 2 = 1 := fun e => h (this.1 e)
      simp [h, h2]
  have y21 : (hi / 2097152).tmod 2 = 0 := by rw [Int.tmod_eq_emod_of_nonneg (by omega)]; exact z21
  have y23 : ((hi / 8388608).tmod 2 == 1) = decide (1048575 < l) := by
    rw [Int.tmod_eq_emod_of_nonneg (by omega)]
    simpa using z23
  have x23 : (hi / 8388608 % 2 == 1) = decide (1048575 < l) := by simpa using z23
  clear hP hpack hk z23
  go_enter Try.func7, Try.ntmps7
  go_wp2_with fail
  refine (awake_any _).mono ?_
  rintro e w1 ⟨rfl, hb1⟩
  have hB1 : Below w.heap.size w w1 := step_below (by go_grown) hb1 (Nat.le_refl _)
  obtain ⟨hc1, hf1⟩ := bcell hb1
  have hz1 := hb1.size
  simp only [World.size_alloc] at hz1 hc1 hf1
  have hz10 : w.heap.size < w1.heap.size := by omega
  go_wp2_with fail
  refine (HC.out _).mono ?_
  rintro e w2 ⟨rfl, hb2⟩
  obtain ⟨hc2, hf2⟩ := bcell hb2
  have hB2 : Below w.heap.size w w2 := step_below hB1 hb2 (Nat.le_refl _)
  have hz20 : w.heap.size < w2.heap.size := by have := hb2.size; omega
  go_wp2_with fail
  refine (packed_any b l t p s r g _ l0 l1).mono ?_
  rintro e w3 ⟨rfl, hb3⟩
  rw [HK.out]
  obtain ⟨hc3, hf3⟩ := bcell hb3
  have hB3 : Below w.heap.size w w3 := step_below hB2 hb3 (Nat.le_refl _)
  have hz30 : w.heap.size < w3.heap.size := by have := hb3.size; omega
  go_wp2_with fail
  have hx0 : (w.alloc (.cells #[.int .u32 b, .int .u32 l, .int .i64 t, .bool s, .int .i64 p, .bool r, .bool g] 25)).heap[w.heap.size]? = some (.cells #[.int .u32 b, .int .u32 l, .int .i64 t, .bool s, .int .i64 p, .bool r, .bool g] 25) := heap_new2 w _
  have hx3 := heap_belowB 0 hb3 (heap_belowB 0 hb2 (heap_belowB 0 hb1 hx0))
  have HX3 := Lib.hid hx3
  obtain ⟨x0, x1, x2, x3, x4, x5, x6⟩ := box_cells hx3
  clear hx0 hx3 hc1 hf1 hc2 hf2 hc3 hf3
  go_region_held3 (fun w' => w'.cell? ⟨w.heap.size, 0, none⟩ = some (.int .u32 b) ∧ w'.cell? ⟨w.heap.size, 1, none⟩ = some (.int .u32 l) ∧ w'.cell? ⟨w.heap.size, 2, none⟩ = some (.int .i64 t) ∧ w'.cell? ⟨w.heap.size, 3, none⟩ = some (.bool s) ∧
      w'.cell? ⟨w.heap.size, 4, none⟩ = some (.int .i64 p) ∧ w'.cell? ⟨w.heap.size, 5, none⟩ = some (.bool r) ∧ w'.cell? ⟨w.heap.size, 6, none⟩ = some (.bool g))
    (first | exact box_cells HX3.out | exact box_cells HX4.out | exact box_cells HX5.out)
    (first
    | (go_at_call 9; refine (parse_any _ _ _ lo0 lo1 hi0 hi1).mono ?_; rintro e w4 ⟨rfl, hb4⟩; rw [HP.out.base, HP.out.limit, HP.out.ty, HP.out.sys, HP.out.dpl, HP.out.pres, HP.out.big]; have hB4 := step_below hB3.drew hb4 (Nat.le_refl _); have HX4 := Lib.hid (heap_belowB 0 hb4 HX3.out))
    | (go_at_call 10; refine (rparse_any _ _ _ lo0 lo1 hi0 hi1).mono ?_; rintro e w5 ⟨rfl, hb5⟩; rw [HP.out.base, HP.out.limit, HP.out.ty, HP.out.sys, HP.out.dpl, HP.out.pres, HP.out.big]; have hB5 := step_below hB4 hb5 (Nat.le_refl _); have HX5 := Lib.hid (heap_belowB 0 hb5 HX4.out)))
  all_goals
    go_wp2_with fail
    go_ret
    exact ⟨rfl, hB5⟩

set_option maxHeartbeats 4000000 in
theorem walk_bad (b l t p : Int) (s r g : Bool) (l0 : 0 ≤ l) (l1 : l < 4294967296) (hk : packed l t p = false)
    (hpack : ∀ w, Calls Try.prog 12 #[.agg #[.int .u32 b, .int .u32 l, .int .i64 t, .bool s, .int .i64 p, .bool r, .bool g]] w fun e w' => e = .returned (.tuple #[.int .u32 0, .int .u32 0, .int .i64 80]) ∧ Below w.heap.size w w') (w : World) :
    Calls Try.prog 7 #[.agg #[.int .u32 b, .int .u32 l, .int .i64 t, .bool s, .int .i64 p, .bool r, .bool g]] w fun e w' => e = .returned (.bool true) ∧ Below w.heap.size w w' := by
  have HC := Lib.hid hpack
  have HK := Lib.hid hk
  clear hpack hk
  go_enter Try.func7, Try.ntmps7
  go_wp2_with fail
  refine (awake_any _).mono ?_
  rintro e w1 ⟨rfl, hb1⟩
  have hB1 : Below w.heap.size w w1 := step_below (by go_grown) hb1 (Nat.le_refl _)
  obtain ⟨hc1, hf1⟩ := bcell hb1
  have hz1 := hb1.size
  simp only [World.size_alloc] at hz1 hc1 hf1
  have hz10 : w.heap.size < w1.heap.size := by omega
  go_wp2_with fail
  refine (HC.out _).mono ?_
  rintro e w2 ⟨rfl, hb2⟩
  obtain ⟨hc2, hf2⟩ := bcell hb2
  have hB2 : Below w.heap.size w w2 := step_below hB1 hb2 (Nat.le_refl _)
  have hz20 : w.heap.size < w2.heap.size := by have := hb2.size; omega
  go_wp2_with fail
  refine (packed_any b l t p s r g _ l0 l1).mono ?_
  rintro e w3 ⟨rfl, hb3⟩
  rw [HK.out]
  have hB3 : Below w.heap.size w w3 := step_below hB2 hb3 (Nat.le_refl _)
  go_wp2_with fail
  go_ret
  exact ⟨rfl, hB3⟩

theorem walk (b l t p : Int) (s r g : Bool) (b0 : 0 ≤ b) (b1 : b < 4294967296) (l0 : 0 ≤ l) (l1 : l < 4294967296) (t0 : -9223372036854775808 ≤ t) (t1 : t ≤ 9223372036854775807) (p0 : -9223372036854775808 ≤ p) (p1 : p ≤ 9223372036854775807) (w : World) :
    Calls Try.prog 7 #[.agg #[.int .u32 b, .int .u32 l, .int .i64 t, .bool s, .int .i64 p, .bool r, .bool g]] w fun e w' => e = .returned (.bool true) ∧ Below w.heap.size w w' := by
  by_cases ht : 0 ≤ t
  · by_cases ht2 : t < 16
    · by_cases hp : 0 ≤ p
      · by_cases hp2 : p < 4
        · by_cases hl : l ≤ 1048575
          · exact walk_ok b l t p s r g l0 l1 _ _ (packs_of 0 b l t p l s r g b0 b1 l0 (by omega) ht ht2 hp hp2 (.inl ⟨rfl, rfl⟩)) (by unfold packed; simp [ht, ht2, hp, hp2, hl])
              (fun w => pack_small b l t p s r g w b0 b1 l0 l1 ht ht2 hp hp2 hl) w
          · by_cases hm : l % 4096 = 4095
            · exact walk_ok b l t p s r g l0 l1 _ _ (packs_of 8388608 b (l / 4096) t p l s r g b0 b1 (by omega) (by omega) ht ht2 hp hp2 (.inr ⟨rfl, by omega, by omega⟩)) (by unfold packed; simp [ht, ht2, hp, hp2, hm])
                (fun w => pack_big b l t p s r g w b0 b1 l0 l1 ht ht2 hp hp2 (by omega) hm) w
            · exact walk_bad b l t p s r g l0 l1 (by unfold packed; simp [hl, hm]) (fun w => pack_l_bad b l t p s r g w b0 b1 l0 l1 ht ht2 hp hp2 (by omega) hm) w
        · exact walk_bad b l t p s r g l0 l1 (by unfold packed; simp [hp2]) (fun w => pack_p_big b l t p s r g w b0 b1 l0 l1 ht ht2 (by omega) p1) w
      · exact walk_bad b l t p s r g l0 l1 (by unfold packed; simp [hp]) (fun w => pack_p_neg b l t p s r g w b0 b1 l0 l1 ht ht2 (by omega) p0) w
    · exact walk_bad b l t p s r g l0 l1 (by unfold packed; simp [ht2]) (fun w => pack_t_big b l t p s r g w b0 b1 l0 l1 (by omega) t1) w
  · exact walk_bad b l t p s r g l0 l1 (by unfold packed; simp [ht]) (fun w => pack_t_neg b l t p s r g w b0 b1 l0 l1 (by omega) t0) w

set_option maxRecDepth 100000 in
theorem lifted (os : Os) (started : os.Started) (H : Type) (enc : TypeId × Value → H) :
    ReturnsInHanded {} Try.checked os 7 .any (Rows.segmentPacksSpec.pre6 enc Try.prog Try.f7 Rows.segmentPacksRow.domain false) (Rows.segmentPacksSpec.post enc Try.prog Try.f7 false true false false) := by
  refine returnsInHanded_of_change (C := Try.checked) own started (by kernel_rfl) Try.func7
    (ChangeSpec.witness6 (enc := enc) (C := Try.checked) false ⟨#[], #[.agg #[.int .u32 0, .int .u32 0, .int .i64 0, .bool false, .int .i64 0, .bool false, .bool false]], []⟩ 8 (by kernel_rfl) (by kernel_rfl) (by kernel_rfl) (by kernel_rfl)) ?_
  intro W base args ds gs before hval0 hW hcnd _
  have hval : ∀ (j : Nat) t v, Try.f7.params[j]? = some t → args[j]? = some v → Value.okWide Try.prog W .any base t v := hval0
  have hW' := hW
  obtain ⟨p, q, hA0, hV, rfl, hfz, hnd⟩ := hW
  have hA : DataW.TrodAll enc Try.prog W 0 (fun _ => true) true Try.f7.params.toList args.toList ds p := hA0
  rw [Try.params7] at hA hval
  obtain ⟨v0, vs0, d0, ds0, p0, q0, hargs, rfl, rfl, h0, r0⟩ := trodAll_cons hA
  obtain ⟨rfl, rfl, rfl⟩ := trodAll_nil r0
  obtain rfl : args = #[v0] := by cases args; simp_all
  clear hA0 hval0
  obtain ⟨b, l, t, p, s, r, g, rfl, bl, bu, ll, lu, tl, tu, pl, pu⟩ := open_desc (hval 0 25 v0 rfl rfl)
  exact law_end (by kernel_rfl) hW' rfl (by kernel_rfl) Try.underlying4 rfl rfl (walk b l t p s r g bl bu ll lu tl tu pl pu W)

theorem proved : Rows.SegmentPacksSaid :=
  OpenClaim.holds_of_wide 7 Try.f7 rfl rfl rfl rfl rfl rfl rfl ⟨rfl, rfl, rfl, rfl, rfl⟩ rfl rfl rfl rfl rfl (by kernel_rfl) Try.func7 (by kernel_rfl)
    (of_decide_eq_true (by kernel_rfl)) (by unfold Func.isWrapper; first | (rw [if_pos (by decide +kernel)]; kernel_rfl) | (rw [if_neg (by decide +kernel)]; exact ⟨rfl, rfl⟩))
    (fun os started H enc _ => lifted os started H enc)
#print axioms proved
end Go.Proofs.Ytjcgpkokndckfaa.segmentPacks
