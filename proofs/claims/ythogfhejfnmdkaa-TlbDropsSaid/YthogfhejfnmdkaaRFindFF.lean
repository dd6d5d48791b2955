/- the document's Find: reading, supervisor. -/
import Derived.Test.YthogfhejfnmdkaaRFindB
namespace Go.Proofs.Ythogfhejfnmdkaa
open Go.RowKit Go.MapKept
set_option linter.unusedVariables false

set_option maxRecDepth 100000 in
set_option maxHeartbeats 8000000 in
theorem rfind_ff {w : World} {b : Nat} {S : Nat → Prop} {R : RS} (H : Ref w b S R) (cr3 lin : Nat) (hc : cr3 < 4294967296) (hl : lin < 4294967296) (wp : Bool) :
    Calls Try.prog 19 #[.pointer (some ⟨b, 0, .none⟩), .int .u32 cr3, .int .u32 lin, .agg #[.bool false, .bool false, .bool wp]] w (RFindEnd w b S (find R cr3 lin false false wp)) := by
  have hP := pde_lt cr3 lin hc hl
  have eP : (cr3 : Int) - (cr3 : Int) % 4096 + (lin : Int) / 4194304 * 4 = (pdeOf cr3 lin : Nat) := by unfold pdeOf; omega
  obtain ⟨fr, hfr⟩ : ∃ y, find R cr3 lin false false wp = y := ⟨_, rfl⟩
  have HFR := Lib.hid hfr
  rw [hfr]
  unfold find at hfr
  generalize pdeOf cr3 lin = P at *
  have HR := Lib.hid hfr
  clear hfr
  go_enter Try.func19, Try.ntmps19
  go_wp2_with fail
  refine (rread_4v ((H.alloc _).alloc _) P hP _ (by omega)).mono ?_
  rintro e w1 ⟨rfl, n1, rfl⟩
  have HH := (RHeld.start H false false wp).drewN n1
  generalize ((w.alloc (.cells #[.bool false, .bool false, .bool wp] 42)).alloc (.cells #[.int .u32 0, .int .u32 0, .int .u32 0, .bool false, .bool false] 38)).drewN n1 = w1 at *
  have one32 : R.read P 4 < 4294967296 := RS.read_lt H.isok _ 4
  have HRD : Hid (∀ t, R.read t 4 < 4294967296) := Lib.hid (fun t => RS.read_lt H.isok t 4)
  generalize R.read P 4 = one at *
  clear H
  rcases h1 : bitIs one 0 with _ | _
  · go_wp2_with fail
    refine (rhas_z _ one 0 _ _ (by omega) rfl one32 (by decide)).mono ?_
    rintro e wz ⟨rfl, nz, rfl⟩
    rw [h1]
    replace HH := HH.drewN nz
    generalize w1.drewN nz = wx at *
    obtain ⟨z0, z1, z2, z3, z4⟩ := cells5 HH.z
    have zf : ∀ j, wx.frozen? ⟨w.heap.size + 1, j, .none⟩ = false := fun j => free_at HH.z
    have CS := Lib.hid (cell_sets HH.z (.int .u32 0) (.int .u32 0) (.int .u32 0) (.bool false) (.bool false))
    have hr := HR.out
    rw [if_pos (by simpa [bitIs] using h1)] at hr
    replace hr := hr.symm
    change fr = (walk0, (0 : Int), R) at hr
    have HE := Lib.hid (rfind_end HH walk0 0 (HFR.out.trans hr))
    clear hr
    go_wp2_with fail
    change bodyPost _ _ _ _ _ (sets5 wx (w.heap.size + 1) (.int .u32 0) (.int .u32 0) (.int .u32 0) (.bool false) (.bool false))
    obtain ⟨y0, y1, y2, y3, y4⟩ := CS.out
    have HE2 := HE.out
    change RFindEnd w b S _ _ (sets5 wx (w.heap.size + 1) (.int .u32 0) (.int .u32 0) (.int .u32 0) (.bool false) (.bool false)) at HE2
    rw [HFR.out] at HE2
    clear CS HE z0 z1 z2 z3 z4 zf
    generalize sets5 wx (w.heap.size + 1) (.int .u32 0) (.int .u32 0) (.int .u32 0) (.bool false) (.bool false) = Wf at *
    refine bodyPost_ret (v := .tuple #[.agg #[.int .u32 0, .int .u32 0, .int .u32 0, .bool false, .bool false], .int .i64 0]) (by simp [results, Try.results19, go_sem, y0, y1, y2, y3, y4]) rfl ?_
    exact HE2
  · have hr1 := HR.out
    rw [if_neg (by simp [bitIs] at h1; omega)] at hr1
    have HR2 := Lib.hid hr1
    clear hr1 HR
    go_wp2_with fail
    refine (rhas_z _ one 0 _ _ (by omega) rfl one32 (by decide)).mono ?_
    rintro e wz ⟨rfl, nz, rfl⟩
    rw [h1]
    replace HH := HH.drewN nz
    generalize w1.drewN nz = wx at *
    have hT := pte_lt one lin one32
    have eT : (one : Int) - (one : Int) % 4096 + (lin : Int) / 4096 % 1024 * 4 = (pteOf one lin : Nat) := by unfold pteOf; omega
    generalize pteOf one lin = T at *
    go_wp2_with fail
    refine (rread_4v HH.r T hT _ (by omega)).mono ?_
    rintro e wz ⟨rfl, nz, rfl⟩
    replace HH := HH.drewN nz
    generalize wx.drewN nz = wy at *
    have two32 : R.read T 4 < 4294967296 := HRD.out T
    generalize R.read T 4 = two at *
    rcases h2 : bitIs two 0 with _ | _
    · go_wp2_with fail
      refine (rhas_z _ two 0 _ _ (by omega) rfl two32 (by decide)).mono ?_
      rintro e wz ⟨rfl, nz, rfl⟩
      rw [h2]
      replace HH := HH.drewN nz
      generalize wy.drewN nz = wx at *
      obtain ⟨z0, z1, z2, z3, z4⟩ := cells5 HH.z
      have zf : ∀ j, wx.frozen? ⟨w.heap.size + 1, j, .none⟩ = false := fun j => free_at HH.z
      have CS := Lib.hid (cell_sets HH.z (.int .u32 0) (.int .u32 0) (.int .u32 0) (.bool false) (.bool false))
      have hr := HR2.out
      rw [if_pos (by simpa [bitIs] using h2)] at hr
      replace hr := hr.symm
      change fr = (walk0, (0 : Int), R) at hr
      have HE := Lib.hid (rfind_end HH walk0 0 (HFR.out.trans hr))
      clear hr
      go_wp2_with fail
      change bodyPost _ _ _ _ _ (sets5 wx (w.heap.size + 1) (.int .u32 0) (.int .u32 0) (.int .u32 0) (.bool false) (.bool false))
      obtain ⟨y0, y1, y2, y3, y4⟩ := CS.out
      have HE2 := HE.out
      change RFindEnd w b S _ _ (sets5 wx (w.heap.size + 1) (.int .u32 0) (.int .u32 0) (.int .u32 0) (.bool false) (.bool false)) at HE2
      rw [HFR.out] at HE2
      clear CS HE z0 z1 z2 z3 z4 zf
      generalize sets5 wx (w.heap.size + 1) (.int .u32 0) (.int .u32 0) (.int .u32 0) (.bool false) (.bool false) = Wf at *
      refine bodyPost_ret (v := .tuple #[.agg #[.int .u32 0, .int .u32 0, .int .u32 0, .bool false, .bool false], .int .i64 0]) (by simp [results, Try.results19, go_sem, y0, y1, y2, y3, y4]) rfl ?_
      exact HE2
    · have hr1 := HR2.out
      rw [if_neg (by simp [bitIs] at h2; omega)] at hr1
      have HR3 := Lib.hid hr1
      clear hr1 HR2
      go_wp2_with fail
      refine (rhas_z _ two 0 _ _ (by omega) rfl two32 (by decide)).mono ?_
      rintro e wz ⟨rfl, nz, rfl⟩
      rw [h2]
      replace HH := HH.drewN nz
      generalize wy.drewN nz = wx at *
      have hf : (two : Int) - (two : Int) % 4096 = ((two / 4096 * 4096 : Nat) : Int) := by omega
      have HF := Lib.hid (show two / 4096 * 4096 = two / 4096 * 4096 from rfl)
      obtain ⟨F, hF⟩ : ∃ F, two / 4096 * 4096 = F := ⟨_, rfl⟩
      rw [hF] at hf
      have HF := Lib.hid hF
      have HFF := FH.start HH F P T false false
      have hq := HFF.q
      clear hF
      rcases h3 : bitIs one 1 with _ | _
      · rcases h5 : bitIs one 2 with _ | _
        · have hr := HR3.out
          simp only [show (one / 2 % 2 == 1) = false from h3, show (one / 4 % 2 == 1) = false from h5, Bool.false_and] at hr
          rw [if_neg (by cases wp <;> decide)] at hr
          rw [HF.out] at hr
          replace hr := hr.symm
          change fr = (⟨F, P, T, false, false⟩, (-1 : Int), (R.mark P 32).mark T 32) at hr
          have G3 := Lib.hid h3
          clear h3
          have G5 := Lib.hid h5
          clear h5
          have HRR := Lib.hid hr
          clear hr HR3
          go_wp2_with fail
          refine (rhas_z _ one 1 _ _ (by omega) rfl one32 (by decide)).mono ?_
          rintro e wz ⟨rfl, nz, rfl⟩
          rw [G3.out]
          replace HFF := HFF.drewN nz
          generalize (wx.alloc (.cells #[.int .u32 (F : Nat), .int .u32 (P : Nat), .int .u32 (T : Nat), .bool false, .bool false] 38)).drewN nz = v1 at *
          obtain ⟨x0, x1, x2, x3, x4⟩ := cells5 HFF.x
          have xf : ∀ j, v1.frozen? ⟨wx.heap.size, j, .none⟩ = false := fun j => free_at HFF.x
          go_wp2_with fail
          refine (rhas_z _ one 2 _ _ (by omega) rfl one32 (by decide)).mono ?_
          rintro e wz ⟨rfl, nz, rfl⟩
          rw [G5.out]
          replace HFF := (HFF.set3 false).drewN nz
          clear x0 x1 x2 x3 x4 xf
          generalize (v1.setCell ⟨wx.heap.size, 3, .none⟩ (.bool false)).drewN nz = v3 at *
          obtain ⟨x0, x1, x2, x3, x4⟩ := cells5 HFF.x
          have xf : ∀ j, v3.frozen? ⟨wx.heap.size, j, .none⟩ = false := fun j => free_at HFF.x
          obtain ⟨a0, a1, a2⟩ := cells3 HFF.h.a
          go_wp2_with fail
          have hl5 := heap_lt ((HFF.set4 false).alloc (.cells #[.int .i64 5] 3)).x
          refine (rmark_1 ((HFF.set4 false).alloc (.cells #[.int .i64 5] 3)).h.r P hP v3.heap.size _ (heap_new_set _ _ _ _)).mono ?_
          rintro e v5 ⟨rfl, r5, k5⟩
          replace HFF := ((HFF.set4 false).alloc (.cells #[.int .i64 5] 3)).marked hl5 r5 k5
          clear x0 x1 x2 x3 x4 xf a0 a1 a2 r5 k5 hl5
          obtain ⟨a0, a1, a2⟩ := cells3 HFF.h.a
          have al := heap_lt HFF.h.a
          go_wp2_with fail
          have hl6 := heap_lt (HFF.alloc (.cells #[.int .i64 5] 3)).x
          refine (rmark_1 (HFF.alloc (.cells #[.int .i64 5] 3)).h.r T hT v5.heap.size _ (heap_new _ _)).mono ?_
          rintro e v6 ⟨rfl, r6, k6⟩
          replace HFF := (HFF.alloc (.cells #[.int .i64 5] 3)).marked hl6 r6 k6
          clear a0 a1 a2 al r6 k6 hl6
          obtain ⟨x0, x1, x2, x3, x4⟩ := cells5 HFF.x
          have hr := HRR.out
          obtain ⟨z0, z1, z2, z3, z4⟩ := cells5 (HFF.h).z
          have zf : ∀ j, (v6).frozen? ⟨w.heap.size + 1, j, .none⟩ = false := fun j => free_at (HFF.h).z
          have CS := Lib.hid (cell_sets (HFF.h).z (.int .u32 (F : Nat)) (.int .u32 (P : Nat)) (.int .u32 (T : Nat)) (.bool false) (.bool false))
          have HE := Lib.hid (rfind_end (HFF.h) ⟨F, P, T, false, false⟩ (-1) (HFR.out.trans hr))
          clear hr
          go_wp2_with fail
          change bodyPost _ _ _ _ _ (sets5 (v6) (w.heap.size + 1) (.int .u32 (F : Nat)) (.int .u32 (P : Nat)) (.int .u32 (T : Nat)) (.bool false) (.bool false))
          obtain ⟨y0, y1, y2, y3, y4⟩ := CS.out
          have HE2 := HE.out
          change RFindEnd w b S _ _ (sets5 (v6) (w.heap.size + 1) (.int .u32 (F : Nat)) (.int .u32 (P : Nat)) (.int .u32 (T : Nat)) (.bool false) (.bool false)) at HE2
          rw [HFR.out] at HE2
          clear CS HE z0 z1 z2 z3 z4 zf
          generalize sets5 (v6) (w.heap.size + 1) (.int .u32 (F : Nat)) (.int .u32 (P : Nat)) (.int .u32 (T : Nat)) (.bool false) (.bool false) = Wf at *
          refine bodyPost_ret (v := .tuple #[.agg #[.int .u32 (F : Nat), .int .u32 (P : Nat), .int .u32 (T : Nat), .bool false, .bool false], .int .i64 (-1)]) (by simp [results, Try.results19, go_sem, y0, y1, y2, y3, y4]) rfl ?_
          exact HE2
        · rcases h6 : bitIs two 2 with _ | _
          · have hr := HR3.out
            simp only [show (one / 2 % 2 == 1) = false from h3, show (one / 4 % 2 == 1) = true from h5, show (two / 4 % 2 == 1) = false from h6, Bool.true_and, Bool.false_and] at hr
            rw [if_neg (by cases wp <;> decide)] at hr
            rw [HF.out] at hr
            replace hr := hr.symm
            change fr = (⟨F, P, T, false, false⟩, (-1 : Int), (R.mark P 32).mark T 32) at hr
            have G3 := Lib.hid h3
            clear h3
            have G5 := Lib.hid h5
            clear h5
            have G6 := Lib.hid h6
            clear h6
            have HRR := Lib.hid hr
            clear hr HR3
            go_wp2_with fail
            refine (rhas_z _ one 1 _ _ (by omega) rfl one32 (by decide)).mono ?_
            rintro e wz ⟨rfl, nz, rfl⟩
            rw [G3.out]
            replace HFF := HFF.drewN nz
            generalize (wx.alloc (.cells #[.int .u32 (F : Nat), .int .u32 (P : Nat), .int .u32 (T : Nat), .bool false, .bool false] 38)).drewN nz = v1 at *
            obtain ⟨x0, x1, x2, x3, x4⟩ := cells5 HFF.x
            have xf : ∀ j, v1.frozen? ⟨wx.heap.size, j, .none⟩ = false := fun j => free_at HFF.x
            go_wp2_with fail
            refine (rhas_z _ one 2 _ _ (by omega) rfl one32 (by decide)).mono ?_
            rintro e wz ⟨rfl, nz, rfl⟩
            rw [G5.out]
            replace HFF := (HFF.set3 false).drewN nz
            clear x0 x1 x2 x3 x4 xf
            generalize (v1.setCell ⟨wx.heap.size, 3, .none⟩ (.bool false)).drewN nz = v3 at *
            go_wp2_with fail
            refine (rhas_z _ two 2 _ _ (by omega) rfl two32 (by decide)).mono ?_
            rintro e wz ⟨rfl, nz, rfl⟩
            rw [G6.out]
            replace HFF := HFF.drewN nz
            generalize v3.drewN nz = v4 at *
            obtain ⟨x0, x1, x2, x3, x4⟩ := cells5 HFF.x
            have xf : ∀ j, v4.frozen? ⟨wx.heap.size, j, .none⟩ = false := fun j => free_at HFF.x
            obtain ⟨a0, a1, a2⟩ := cells3 HFF.h.a
            go_wp2_with fail
            have hl5 := heap_lt ((HFF.set4 false).alloc (.cells #[.int .i64 5] 3)).x
            refine (rmark_1 ((HFF.set4 false).alloc (.cells #[.int .i64 5] 3)).h.r P hP v4.heap.size _ (heap_new_set _ _ _ _)).mono ?_
            rintro e v5 ⟨rfl, r5, k5⟩
            replace HFF := ((HFF.set4 false).alloc (.cells #[.int .i64 5] 3)).marked hl5 r5 k5
            clear x0 x1 x2 x3 x4 xf a0 a1 a2 r5 k5 hl5
            obtain ⟨a0, a1, a2⟩ := cells3 HFF.h.a
            have al := heap_lt HFF.h.a
            go_wp2_with fail
            have hl6 := heap_lt (HFF.alloc (.cells #[.int .i64 5] 3)).x
            refine (rmark_1 (HFF.alloc (.cells #[.int .i64 5] 3)).h.r T hT v5.heap.size _ (heap_new _ _)).mono ?_
            rintro e v6 ⟨rfl, r6, k6⟩
            replace HFF := (HFF.alloc (.cells #[.int .i64 5] 3)).marked hl6 r6 k6
            clear a0 a1 a2 al r6 k6 hl6
            obtain ⟨x0, x1, x2, x3, x4⟩ := cells5 HFF.x
            have hr := HRR.out
            obtain ⟨z0, z1, z2, z3, z4⟩ := cells5 (HFF.h).z
            have zf : ∀ j, (v6).frozen? ⟨w.heap.size + 1, j, .none⟩ = false := fun j => free_at (HFF.h).z
            have CS := Lib.hid (cell_sets (HFF.h).z (.int .u32 (F : Nat)) (.int .u32 (P : Nat)) (.int .u32 (T : Nat)) (.bool false) (.bool false))
            have HE := Lib.hid (rfind_end (HFF.h) ⟨F, P, T, false, false⟩ (-1) (HFR.out.trans hr))
            clear hr
            go_wp2_with fail
            change bodyPost _ _ _ _ _ (sets5 (v6) (w.heap.size + 1) (.int .u32 (F : Nat)) (.int .u32 (P : Nat)) (.int .u32 (T : Nat)) (.bool false) (.bool false))
            obtain ⟨y0, y1, y2, y3, y4⟩ := CS.out
            have HE2 := HE.out
            change RFindEnd w b S _ _ (sets5 (v6) (w.heap.size + 1) (.int .u32 (F : Nat)) (.int .u32 (P : Nat)) (.int .u32 (T : Nat)) (.bool false) (.bool false)) at HE2
            rw [HFR.out] at HE2
            clear CS HE z0 z1 z2 z3 z4 zf
            generalize sets5 (v6) (w.heap.size + 1) (.int .u32 (F : Nat)) (.int .u32 (P : Nat)) (.int .u32 (T : Nat)) (.bool false) (.bool false) = Wf at *
            refine bodyPost_ret (v := .tuple #[.agg #[.int .u32 (F : Nat), .int .u32 (P : Nat), .int .u32 (T : Nat), .bool false, .bool false], .int .i64 (-1)]) (by simp [results, Try.results19, go_sem, y0, y1, y2, y3, y4]) rfl ?_
            exact HE2
          · have hr := HR3.out
            simp only [show (one / 2 % 2 == 1) = false from h3, show (one / 4 % 2 == 1) = true from h5, show (two / 4 % 2 == 1) = true from h6, Bool.true_and, Bool.false_and] at hr
            rw [if_neg (by cases wp <;> decide)] at hr
            rw [HF.out] at hr
            replace hr := hr.symm
            change fr = (⟨F, P, T, false, true⟩, (-1 : Int), (R.mark P 32).mark T 32) at hr
            have G3 := Lib.hid h3
            clear h3
            have G5 := Lib.hid h5
            clear h5
            have G6 := Lib.hid h6
            clear h6
            have HRR := Lib.hid hr
            clear hr HR3
            go_wp2_with fail
            refine (rhas_z _ one 1 _ _ (by omega) rfl one32 (by decide)).mono ?_
            rintro e wz ⟨rfl, nz, rfl⟩
            rw [G3.out]
            replace HFF := HFF.drewN nz
            generalize (wx.alloc (.cells #[.int .u32 (F : Nat), .int .u32 (P : Nat), .int .u32 (T : Nat), .bool false, .bool false] 38)).drewN nz = v1 at *
            obtain ⟨x0, x1, x2, x3, x4⟩ := cells5 HFF.x
            have xf : ∀ j, v1.frozen? ⟨wx.heap.size, j, .none⟩ = false := fun j => free_at HFF.x
            go_wp2_with fail
            refine (rhas_z _ one 2 _ _ (by omega) rfl one32 (by decide)).mono ?_
            rintro e wz ⟨rfl, nz, rfl⟩
            rw [G5.out]
            replace HFF := (HFF.set3 false).drewN nz
            clear x0 x1 x2 x3 x4 xf
            generalize (v1.setCell ⟨wx.heap.size, 3, .none⟩ (.bool false)).drewN nz = v3 at *
            go_wp2_with fail
            refine (rhas_z _ two 2 _ _ (by omega) rfl two32 (by decide)).mono ?_
            rintro e wz ⟨rfl, nz, rfl⟩
            rw [G6.out]
            replace HFF := HFF.drewN nz
            generalize v3.drewN nz = v4 at *
            obtain ⟨x0, x1, x2, x3, x4⟩ := cells5 HFF.x
            have xf : ∀ j, v4.frozen? ⟨wx.heap.size, j, .none⟩ = false := fun j => free_at HFF.x
            obtain ⟨a0, a1, a2⟩ := cells3 HFF.h.a
            go_wp2_with fail
            have hl5 := heap_lt ((HFF.set4 true).alloc (.cells #[.int .i64 5] 3)).x
            refine (rmark_1 ((HFF.set4 true).alloc (.cells #[.int .i64 5] 3)).h.r P hP v4.heap.size _ (heap_new_set _ _ _ _)).mono ?_
            rintro e v5 ⟨rfl, r5, k5⟩
            replace HFF := ((HFF.set4 true).alloc (.cells #[.int .i64 5] 3)).marked hl5 r5 k5
            clear x0 x1 x2 x3 x4 xf a0 a1 a2 r5 k5 hl5
            obtain ⟨a0, a1, a2⟩ := cells3 HFF.h.a
            have al := heap_lt HFF.h.a
            go_wp2_with fail
            have hl6 := heap_lt (HFF.alloc (.cells #[.int .i64 5] 3)).x
            refine (rmark_1 (HFF.alloc (.cells #[.int .i64 5] 3)).h.r T hT v5.heap.size _ (heap_new _ _)).mono ?_
            rintro e v6 ⟨rfl, r6, k6⟩
            replace HFF := (HFF.alloc (.cells #[.int .i64 5] 3)).marked hl6 r6 k6
            clear a0 a1 a2 al r6 k6 hl6
            obtain ⟨x0, x1, x2, x3, x4⟩ := cells5 HFF.x
            have hr := HRR.out
            obtain ⟨z0, z1, z2, z3, z4⟩ := cells5 (HFF.h).z
            have zf : ∀ j, (v6).frozen? ⟨w.heap.size + 1, j, .none⟩ = false := fun j => free_at (HFF.h).z
            have CS := Lib.hid (cell_sets (HFF.h).z (.int .u32 (F : Nat)) (.int .u32 (P : Nat)) (.int .u32 (T : Nat)) (.bool false) (.bool true))
            have HE := Lib.hid (rfind_end (HFF.h) ⟨F, P, T, false, true⟩ (-1) (HFR.out.trans hr))
            clear hr
            go_wp2_with fail
            change bodyPost _ _ _ _ _ (sets5 (v6) (w.heap.size + 1) (.int .u32 (F : Nat)) (.int .u32 (P : Nat)) (.int .u32 (T : Nat)) (.bool false) (.bool true))
            obtain ⟨y0, y1, y2, y3, y4⟩ := CS.out
            have HE2 := HE.out
            change RFindEnd w b S _ _ (sets5 (v6) (w.heap.size + 1) (.int .u32 (F : Nat)) (.int .u32 (P : Nat)) (.int .u32 (T : Nat)) (.bool false) (.bool true)) at HE2
            rw [HFR.out] at HE2
            clear CS HE z0 z1 z2 z3 z4 zf
            generalize sets5 (v6) (w.heap.size + 1) (.int .u32 (F : Nat)) (.int .u32 (P : Nat)) (.int .u32 (T : Nat)) (.bool false) (.bool true) = Wf at *
            refine bodyPost_ret (v := .tuple #[.agg #[.int .u32 (F : Nat), .int .u32 (P : Nat), .int .u32 (T : Nat), .bool false, .bool true], .int .i64 (-1)]) (by simp [results, Try.results19, go_sem, y0, y1, y2, y3, y4]) rfl ?_
            exact HE2
      · rcases h4 : bitIs two 1 with _ | _
        · rcases h5 : bitIs one 2 with _ | _
          · have hr := HR3.out
            simp only [show (one / 2 % 2 == 1) = true from h3, show (two / 2 % 2 == 1) = false from h4, show (one / 4 % 2 == 1) = false from h5, Bool.true_and, Bool.false_and] at hr
            rw [if_neg (by cases wp <;> decide)] at hr
            rw [HF.out] at hr
            replace hr := hr.symm
            change fr = (⟨F, P, T, false, false⟩, (-1 : Int), (R.mark P 32).mark T 32) at hr
            have G3 := Lib.hid h3
            clear h3
            have G5 := Lib.hid h5
            clear h5
            have G4 := Lib.hid h4
            clear h4
            have HRR := Lib.hid hr
            clear hr HR3
            go_wp2_with fail
            refine (rhas_z _ one 1 _ _ (by omega) rfl one32 (by decide)).mono ?_
            rintro e wz ⟨rfl, nz, rfl⟩
            rw [G3.out]
            replace HFF := HFF.drewN nz
            generalize (wx.alloc (.cells #[.int .u32 (F : Nat), .int .u32 (P : Nat), .int .u32 (T : Nat), .bool false, .bool false] 38)).drewN nz = v1 at *
            go_wp2_with fail
            refine (rhas_z _ two 1 _ _ (by omega) rfl two32 (by decide)).mono ?_
            rintro e wz ⟨rfl, nz, rfl⟩
            rw [G4.out]
            replace HFF := HFF.drewN nz
            generalize v1.drewN nz = v2 at *
            obtain ⟨x0, x1, x2, x3, x4⟩ := cells5 HFF.x
            have xf : ∀ j, v2.frozen? ⟨wx.heap.size, j, .none⟩ = false := fun j => free_at HFF.x
            go_wp2_with fail
            refine (rhas_z _ one 2 _ _ (by omega) rfl one32 (by decide)).mono ?_
            rintro e wz ⟨rfl, nz, rfl⟩
            rw [G5.out]
            replace HFF := (HFF.set3 false).drewN nz
            clear x0 x1 x2 x3 x4 xf
            generalize (v2.setCell ⟨wx.heap.size, 3, .none⟩ (.bool false)).drewN nz = v3 at *
            obtain ⟨x0, x1, x2, x3, x4⟩ := cells5 HFF.x
            have xf : ∀ j, v3.frozen? ⟨wx.heap.size, j, .none⟩ = false := fun j => free_at HFF.x
            obtain ⟨a0, a1, a2⟩ := cells3 HFF.h.a
            go_wp2_with fail
            have hl5 := heap_lt ((HFF.set4 false).alloc (.cells #[.int .i64 5] 3)).x
            refine (rmark_1 ((HFF.set4 false).alloc (.cells #[.int .i64 5] 3)).h.r P hP v3.heap.size _ (heap_new_set _ _ _ _)).mono ?_
            rintro e v5 ⟨rfl, r5, k5⟩
            replace HFF := ((HFF.set4 false).alloc (.cells #[.int .i64 5] 3)).marked hl5 r5 k5
            clear x0 x1 x2 x3 x4 xf a0 a1 a2 r5 k5 hl5
            obtain ⟨a0, a1, a2⟩ := cells3 HFF.h.a
            have al := heap_lt HFF.h.a
            go_wp2_with fail
            have hl6 := heap_lt (HFF.alloc (.cells #[.int .i64 5] 3)).x
            refine (rmark_1 (HFF.alloc (.cells #[.int .i64 5] 3)).h.r T hT v5.heap.size _ (heap_new _ _)).mono ?_
            rintro e v6 ⟨rfl, r6, k6⟩
            replace HFF := (HFF.alloc (.cells #[.int .i64 5] 3)).marked hl6 r6 k6
            clear a0 a1 a2 al r6 k6 hl6
            obtain ⟨x0, x1, x2, x3, x4⟩ := cells5 HFF.x
            have hr := HRR.out
            obtain ⟨z0, z1, z2, z3, z4⟩ := cells5 (HFF.h).z
            have zf : ∀ j, (v6).frozen? ⟨w.heap.size + 1, j, .none⟩ = false := fun j => free_at (HFF.h).z
            have CS := Lib.hid (cell_sets (HFF.h).z (.int .u32 (F : Nat)) (.int .u32 (P : Nat)) (.int .u32 (T : Nat)) (.bool false) (.bool false))
            have HE := Lib.hid (rfind_end (HFF.h) ⟨F, P, T, false, false⟩ (-1) (HFR.out.trans hr))
            clear hr
            go_wp2_with fail
            change bodyPost _ _ _ _ _ (sets5 (v6) (w.heap.size + 1) (.int .u32 (F : Nat)) (.int .u32 (P : Nat)) (.int .u32 (T : Nat)) (.bool false) (.bool false))
            obtain ⟨y0, y1, y2, y3, y4⟩ := CS.out
            have HE2 := HE.out
            change RFindEnd w b S _ _ (sets5 (v6) (w.heap.size + 1) (.int .u32 (F : Nat)) (.int .u32 (P : Nat)) (.int .u32 (T : Nat)) (.bool false) (.bool false)) at HE2
            rw [HFR.out] at HE2
            clear CS HE z0 z1 z2 z3 z4 zf
            generalize sets5 (v6) (w.heap.size + 1) (.int .u32 (F : Nat)) (.int .u32 (P : Nat)) (.int .u32 (T : Nat)) (.bool false) (.bool false) = Wf at *
            refine bodyPost_ret (v := .tuple #[.agg #[.int .u32 (F : Nat), .int .u32 (P : Nat), .int .u32 (T : Nat), .bool false, .bool false], .int .i64 (-1)]) (by simp [results, Try.results19, go_sem, y0, y1, y2, y3, y4]) rfl ?_
            exact HE2
          · rcases h6 : bitIs two 2 with _ | _
            · have hr := HR3.out
              simp only [show (one / 2 % 2 == 1) = true from h3, show (two / 2 % 2 == 1) = false from h4, show (one / 4 % 2 == 1) = true from h5, show (two / 4 % 2 == 1) = false from h6, Bool.true_and] at hr
              rw [if_neg (by cases wp <;> decide)] at hr
              rw [HF.out] at hr
              replace hr := hr.symm
              change fr = (⟨F, P, T, false, false⟩, (-1 : Int), (R.mark P 32).mark T 32) at hr
              have G3 := Lib.hid h3
              clear h3
              have G5 := Lib.hid h5
              clear h5
              have G4 := Lib.hid h4
              clear h4
              have G6 := Lib.hid h6
              clear h6
              have HRR := Lib.hid hr
              clear hr HR3
              go_wp2_with fail
              refine (rhas_z _ one 1 _ _ (by omega) rfl one32 (by decide)).mono ?_
              rintro e wz ⟨rfl, nz, rfl⟩
              rw [G3.out]
              replace HFF := HFF.drewN nz
              generalize (wx.alloc (.cells #[.int .u32 (F : Nat), .int .u32 (P : Nat), .int .u32 (T : Nat), .bool false, .bool false] 38)).drewN nz = v1 at *
              go_wp2_with fail
              refine (rhas_z _ two 1 _ _ (by omega) rfl two32 (by decide)).mono ?_
              rintro e wz ⟨rfl, nz, rfl⟩
              rw [G4.out]
              replace HFF := HFF.drewN nz
              generalize v1.drewN nz = v2 at *
              obtain ⟨x0, x1, x2, x3, x4⟩ := cells5 HFF.x
              have xf : ∀ j, v2.frozen? ⟨wx.heap.size, j, .none⟩ = false := fun j => free_at HFF.x
              go_wp2_with fail
              refine (rhas_z _ one 2 _ _ (by omega) rfl one32 (by decide)).mono ?_
              rintro e wz ⟨rfl, nz, rfl⟩
              rw [G5.out]
              replace HFF := (HFF.set3 false).drewN nz
              clear x0 x1 x2 x3 x4 xf
              generalize (v2.setCell ⟨wx.heap.size, 3, .none⟩ (.bool false)).drewN nz = v3 at *
              go_wp2_with fail
              refine (rhas_z _ two 2 _ _ (by omega) rfl two32 (by decide)).mono ?_
              rintro e wz ⟨rfl, nz, rfl⟩
              rw [G6.out]
              replace HFF := HFF.drewN nz
              generalize v3.drewN nz = v4 at *
              obtain ⟨x0, x1, x2, x3, x4⟩ := cells5 HFF.x
              have xf : ∀ j, v4.frozen? ⟨wx.heap.size, j, .none⟩ = false := fun j => free_at HFF.x
              obtain ⟨a0, a1, a2⟩ := cells3 HFF.h.a
              go_wp2_with fail
              have hl5 := heap_lt ((HFF.set4 false).alloc (.cells #[.int .i64 5] 3)).x
              refine (rmark_1 ((HFF.set4 false).alloc (.cells #[.int .i64 5] 3)).h.r P hP v4.heap.size _ (heap_new_set _ _ _ _)).mono ?_
              rintro e v5 ⟨rfl, r5, k5⟩
              replace HFF := ((HFF.set4 false).alloc (.cells #[.int .i64 5] 3)).marked hl5 r5 k5
              clear x0 x1 x2 x3 x4 xf a0 a1 a2 r5 k5 hl5
              obtain ⟨a0, a1, a2⟩ := cells3 HFF.h.a
              have al := heap_lt HFF.h.a
              go_wp2_with fail
              have hl6 := heap_lt (HFF.alloc (.cells #[.int .i64 5] 3)).x
              refine (rmark_1 (HFF.alloc (.cells #[.int .i64 5] 3)).h.r T hT v5.heap.size _ (heap_new _ _)).mono ?_
              rintro e v6 ⟨rfl, r6, k6⟩
              replace HFF := (HFF.alloc (.cells #[.int .i64 5] 3)).marked hl6 r6 k6
              clear a0 a1 a2 al r6 k6 hl6
              obtain ⟨x0, x1, x2, x3, x4⟩ := cells5 HFF.x
              have hr := HRR.out
              obtain ⟨z0, z1, z2, z3, z4⟩ := cells5 (HFF.h).z
              have zf : ∀ j, (v6).frozen? ⟨w.heap.size + 1, j, .none⟩ = false := fun j => free_at (HFF.h).z
              have CS := Lib.hid (cell_sets (HFF.h).z (.int .u32 (F : Nat)) (.int .u32 (P : Nat)) (.int .u32 (T : Nat)) (.bool false) (.bool false))
              have HE := Lib.hid (rfind_end (HFF.h) ⟨F, P, T, false, false⟩ (-1) (HFR.out.trans hr))
              clear hr
              go_wp2_with fail
              change bodyPost _ _ _ _ _ (sets5 (v6) (w.heap.size + 1) (.int .u32 (F : Nat)) (.int .u32 (P : Nat)) (.int .u32 (T : Nat)) (.bool false) (.bool false))
              obtain ⟨y0, y1, y2, y3, y4⟩ := CS.out
              have HE2 := HE.out
              change RFindEnd w b S _ _ (sets5 (v6) (w.heap.size + 1) (.int .u32 (F : Nat)) (.int .u32 (P : Nat)) (.int .u32 (T : Nat)) (.bool false) (.bool false)) at HE2
              rw [HFR.out] at HE2
              clear CS HE z0 z1 z2 z3 z4 zf
              generalize sets5 (v6) (w.heap.size + 1) (.int .u32 (F : Nat)) (.int .u32 (P : Nat)) (.int .u32 (T : Nat)) (.bool false) (.bool false) = Wf at *
              refine bodyPost_ret (v := .tuple #[.agg #[.int .u32 (F : Nat), .int .u32 (P : Nat), .int .u32 (T : Nat), .bool false, .bool false], .int .i64 (-1)]) (by simp [results, Try.results19, go_sem, y0, y1, y2, y3, y4]) rfl ?_
              exact HE2
            · have hr := HR3.out
              simp only [show (one / 2 % 2 == 1) = true from h3, show (two / 2 % 2 == 1) = false from h4, show (one / 4 % 2 == 1) = true from h5, show (two / 4 % 2 == 1) = true from h6, Bool.true_and] at hr
              rw [if_neg (by cases wp <;> decide)] at hr
              rw [HF.out] at hr
              replace hr := hr.symm
              change fr = (⟨F, P, T, false, true⟩, (-1 : Int), (R.mark P 32).mark T 32) at hr
              have G3 := Lib.hid h3
              clear h3
              have G5 := Lib.hid h5
              clear h5
              have G4 := Lib.hid h4
              clear h4
              have G6 := Lib.hid h6
              clear h6
              have HRR := Lib.hid hr
              clear hr HR3
              go_wp2_with fail
              refine (rhas_z _ one 1 _ _ (by omega) rfl one32 (by decide)).mono ?_
              rintro e wz ⟨rfl, nz, rfl⟩
              rw [G3.out]
              replace HFF := HFF.drewN nz
              generalize (wx.alloc (.cells #[.int .u32 (F : Nat), .int .u32 (P : Nat), .int .u32 (T : Nat), .bool false, .bool false] 38)).drewN nz = v1 at *
              go_wp2_with fail
              refine (rhas_z _ two 1 _ _ (by omega) rfl two32 (by decide)).mono ?_
              rintro e wz ⟨rfl, nz, rfl⟩
              rw [G4.out]
              replace HFF := HFF.drewN nz
              generalize v1.drewN nz = v2 at *
              obtain ⟨x0, x1, x2, x3, x4⟩ := cells5 HFF.x
              have xf : ∀ j, v2.frozen? ⟨wx.heap.size, j, .none⟩ = false := fun j => free_at HFF.x
              go_wp2_with fail
              refine (rhas_z _ one 2 _ _ (by omega) rfl one32 (by decide)).mono ?_
              rintro e wz ⟨rfl, nz, rfl⟩
              rw [G5.out]
              replace HFF := (HFF.set3 false).drewN nz
              clear x0 x1 x2 x3 x4 xf
              generalize (v2.setCell ⟨wx.heap.size, 3, .none⟩ (.bool false)).drewN nz = v3 at *
              go_wp2_with fail
              refine (rhas_z _ two 2 _ _ (by omega) rfl two32 (by decide)).mono ?_
              rintro e wz ⟨rfl, nz, rfl⟩
              rw [G6.out]
              replace HFF := HFF.drewN nz
              generalize v3.drewN nz = v4 at *
              obtain ⟨x0, x1, x2, x3, x4⟩ := cells5 HFF.x
              have xf : ∀ j, v4.frozen? ⟨wx.heap.size, j, .none⟩ = false := fun j => free_at HFF.x
              obtain ⟨a0, a1, a2⟩ := cells3 HFF.h.a
              go_wp2_with fail
              have hl5 := heap_lt ((HFF.set4 true).alloc (.cells #[.int .i64 5] 3)).x
              refine (rmark_1 ((HFF.set4 true).alloc (.cells #[.int .i64 5] 3)).h.r P hP v4.heap.size _ (heap_new_set _ _ _ _)).mono ?_
              rintro e v5 ⟨rfl, r5, k5⟩
              replace HFF := ((HFF.set4 true).alloc (.cells #[.int .i64 5] 3)).marked hl5 r5 k5
              clear x0 x1 x2 x3 x4 xf a0 a1 a2 r5 k5 hl5
              obtain ⟨a0, a1, a2⟩ := cells3 HFF.h.a
              have al := heap_lt HFF.h.a
              go_wp2_with fail
              have hl6 := heap_lt (HFF.alloc (.cells #[.int .i64 5] 3)).x
              refine (rmark_1 (HFF.alloc (.cells #[.int .i64 5] 3)).h.r T hT v5.heap.size _ (heap_new _ _)).mono ?_
              rintro e v6 ⟨rfl, r6, k6⟩
              replace HFF := (HFF.alloc (.cells #[.int .i64 5] 3)).marked hl6 r6 k6
              clear a0 a1 a2 al r6 k6 hl6
              obtain ⟨x0, x1, x2, x3, x4⟩ := cells5 HFF.x
              have hr := HRR.out
              obtain ⟨z0, z1, z2, z3, z4⟩ := cells5 (HFF.h).z
              have zf : ∀ j, (v6).frozen? ⟨w.heap.size + 1, j, .none⟩ = false := fun j => free_at (HFF.h).z
              have CS := Lib.hid (cell_sets (HFF.h).z (.int .u32 (F : Nat)) (.int .u32 (P : Nat)) (.int .u32 (T : Nat)) (.bool false) (.bool true))
              have HE := Lib.hid (rfind_end (HFF.h) ⟨F, P, T, false, true⟩ (-1) (HFR.out.trans hr))
              clear hr
              go_wp2_with fail
              change bodyPost _ _ _ _ _ (sets5 (v6) (w.heap.size + 1) (.int .u32 (F : Nat)) (.int .u32 (P : Nat)) (.int .u32 (T : Nat)) (.bool false) (.bool true))
              obtain ⟨y0, y1, y2, y3, y4⟩ := CS.out
              have HE2 := HE.out
              change RFindEnd w b S _ _ (sets5 (v6) (w.heap.size + 1) (.int .u32 (F : Nat)) (.int .u32 (P : Nat)) (.int .u32 (T : Nat)) (.bool false) (.bool true)) at HE2
              rw [HFR.out] at HE2
              clear CS HE z0 z1 z2 z3 z4 zf
              generalize sets5 (v6) (w.heap.size + 1) (.int .u32 (F : Nat)) (.int .u32 (P : Nat)) (.int .u32 (T : Nat)) (.bool false) (.bool true) = Wf at *
              refine bodyPost_ret (v := .tuple #[.agg #[.int .u32 (F : Nat), .int .u32 (P : Nat), .int .u32 (T : Nat), .bool false, .bool true], .int .i64 (-1)]) (by simp [results, Try.results19, go_sem, y0, y1, y2, y3, y4]) rfl ?_
              exact HE2
        · rcases h5 : bitIs one 2 with _ | _
          · have hr := HR3.out
            simp only [show (one / 2 % 2 == 1) = true from h3, show (two / 2 % 2 == 1) = true from h4, show (one / 4 % 2 == 1) = false from h5, Bool.true_and, Bool.false_and] at hr
            rw [if_neg (by cases wp <;> decide)] at hr
            rw [HF.out] at hr
            replace hr := hr.symm
            change fr = (⟨F, P, T, true, false⟩, (-1 : Int), (R.mark P 32).mark T 32) at hr
            have G3 := Lib.hid h3
            clear h3
            have G5 := Lib.hid h5
            clear h5
            have G4 := Lib.hid h4
            clear h4
            have HRR := Lib.hid hr
            clear hr HR3
            go_wp2_with fail
            refine (rhas_z _ one 1 _ _ (by omega) rfl one32 (by decide)).mono ?_
            rintro e wz ⟨rfl, nz, rfl⟩
            rw [G3.out]
            replace HFF := HFF.drewN nz
            generalize (wx.alloc (.cells #[.int .u32 (F : Nat), .int .u32 (P : Nat), .int .u32 (T : Nat), .bool false, .bool false] 38)).drewN nz = v1 at *
            go_wp2_with fail
            refine (rhas_z _ two 1 _ _ (by omega) rfl two32 (by decide)).mono ?_
            rintro e wz ⟨rfl, nz, rfl⟩
            rw [G4.out]
            replace HFF := HFF.drewN nz
            generalize v1.drewN nz = v2 at *
            obtain ⟨x0, x1, x2, x3, x4⟩ := cells5 HFF.x
            have xf : ∀ j, v2.frozen? ⟨wx.heap.size, j, .none⟩ = false := fun j => free_at HFF.x
            go_wp2_with fail
            refine (rhas_z _ one 2 _ _ (by omega) rfl one32 (by decide)).mono ?_
            rintro e wz ⟨rfl, nz, rfl⟩
            rw [G5.out]
            replace HFF := (HFF.set3 true).drewN nz
            clear x0 x1 x2 x3 x4 xf
            generalize (v2.setCell ⟨wx.heap.size, 3, .none⟩ (.bool true)).drewN nz = v3 at *
            obtain ⟨x0, x1, x2, x3, x4⟩ := cells5 HFF.x
            have xf : ∀ j, v3.frozen? ⟨wx.heap.size, j, .none⟩ = false := fun j => free_at HFF.x
            obtain ⟨a0, a1, a2⟩ := cells3 HFF.h.a
            go_wp2_with fail
            have hl5 := heap_lt ((HFF.set4 false).alloc (.cells #[.int .i64 5] 3)).x
            refine (rmark_1 ((HFF.set4 false).alloc (.cells #[.int .i64 5] 3)).h.r P hP v3.heap.size _ (heap_new_set _ _ _ _)).mono ?_
            rintro e v5 ⟨rfl, r5, k5⟩
            replace HFF := ((HFF.set4 false).alloc (.cells #[.int .i64 5] 3)).marked hl5 r5 k5
            clear x0 x1 x2 x3 x4 xf a0 a1 a2 r5 k5 hl5
            obtain ⟨a0, a1, a2⟩ := cells3 HFF.h.a
            have al := heap_lt HFF.h.a
            go_wp2_with fail
            have hl6 := heap_lt (HFF.alloc (.cells #[.int .i64 5] 3)).x
            refine (rmark_1 (HFF.alloc (.cells #[.int .i64 5] 3)).h.r T hT v5.heap.size _ (heap_new _ _)).mono ?_
            rintro e v6 ⟨rfl, r6, k6⟩
            replace HFF := (HFF.alloc (.cells #[.int .i64 5] 3)).marked hl6 r6 k6
            clear a0 a1 a2 al r6 k6 hl6
            obtain ⟨x0, x1, x2, x3, x4⟩ := cells5 HFF.x
            have hr := HRR.out
            obtain ⟨z0, z1, z2, z3, z4⟩ := cells5 (HFF.h).z
            have zf : ∀ j, (v6).frozen? ⟨w.heap.size + 1, j, .none⟩ = false := fun j => free_at (HFF.h).z
            have CS := Lib.hid (cell_sets (HFF.h).z (.int .u32 (F : Nat)) (.int .u32 (P : Nat)) (.int .u32 (T : Nat)) (.bool true) (.bool false))
            have HE := Lib.hid (rfind_end (HFF.h) ⟨F, P, T, true, false⟩ (-1) (HFR.out.trans hr))
            clear hr
            go_wp2_with fail
            change bodyPost _ _ _ _ _ (sets5 (v6) (w.heap.size + 1) (.int .u32 (F : Nat)) (.int .u32 (P : Nat)) (.int .u32 (T : Nat)) (.bool true) (.bool false))
            obtain ⟨y0, y1, y2, y3, y4⟩ := CS.out
            have HE2 := HE.out
            change RFindEnd w b S _ _ (sets5 (v6) (w.heap.size + 1) (.int .u32 (F : Nat)) (.int .u32 (P : Nat)) (.int .u32 (T : Nat)) (.bool true) (.bool false)) at HE2
            rw [HFR.out] at HE2
            clear CS HE z0 z1 z2 z3 z4 zf
            generalize sets5 (v6) (w.heap.size + 1) (.int .u32 (F : Nat)) (.int .u32 (P : Nat)) (.int .u32 (T : Nat)) (.bool true) (.bool false) = Wf at *
            refine bodyPost_ret (v := .tuple #[.agg #[.int .u32 (F : Nat), .int .u32 (P : Nat), .int .u32 (T : Nat), .bool true, .bool false], .int .i64 (-1)]) (by simp [results, Try.results19, go_sem, y0, y1, y2, y3, y4]) rfl ?_
            exact HE2
          · rcases h6 : bitIs two 2 with _ | _
            · have hr := HR3.out
              simp only [show (one / 2 % 2 == 1) = true from h3, show (two / 2 % 2 == 1) = true from h4, show (one / 4 % 2 == 1) = true from h5, show (two / 4 % 2 == 1) = false from h6, Bool.true_and] at hr
              rw [if_neg (by cases wp <;> decide)] at hr
              rw [HF.out] at hr
              replace hr := hr.symm
              change fr = (⟨F, P, T, true, false⟩, (-1 : Int), (R.mark P 32).mark T 32) at hr
              have G3 := Lib.hid h3
              clear h3
              have G5 := Lib.hid h5
              clear h5
              have G4 := Lib.hid h4
              clear h4
              have G6 := Lib.hid h6
              clear h6
              have HRR := Lib.hid hr
              clear hr HR3
              go_wp2_with fail
              refine (rhas_z _ one 1 _ _ (by omega) rfl one32 (by decide)).mono ?_
              rintro e wz ⟨rfl, nz, rfl⟩
              rw [G3.out]
              replace HFF := HFF.drewN nz
              generalize (wx.alloc (.cells #[.int .u32 (F : Nat), .int .u32 (P : Nat), .int .u32 (T : Nat), .bool false, .bool false] 38)).drewN nz = v1 at *
              go_wp2_with fail
              refine (rhas_z _ two 1 _ _ (by omega) rfl two32 (by decide)).mono ?_
              rintro e wz ⟨rfl, nz, rfl⟩
              rw [G4.out]
              replace HFF := HFF.drewN nz
              generalize v1.drewN nz = v2 at *
              obtain ⟨x0, x1, x2, x3, x4⟩ := cells5 HFF.x
              have xf : ∀ j, v2.frozen? ⟨wx.heap.size, j, .none⟩ = false := fun j => free_at HFF.x
              go_wp2_with fail
              refine (rhas_z _ one 2 _ _ (by omega) rfl one32 (by decide)).mono ?_
              rintro e wz ⟨rfl, nz, rfl⟩
              rw [G5.out]
              replace HFF := (HFF.set3 true).drewN nz
              clear x0 x1 x2 x3 x4 xf
              generalize (v2.setCell ⟨wx.heap.size, 3, .none⟩ (.bool true)).drewN nz = v3 at *
              go_wp2_with fail
              refine (rhas_z _ two 2 _ _ (by omega) rfl two32 (by decide)).mono ?_
              rintro e wz ⟨rfl, nz, rfl⟩
              rw [G6.out]
              replace HFF := HFF.drewN nz
              generalize v3.drewN nz = v4 at *
              obtain ⟨x0, x1, x2, x3, x4⟩ := cells5 HFF.x
              have xf : ∀ j, v4.frozen? ⟨wx.heap.size, j, .none⟩ = false := fun j => free_at HFF.x
              obtain ⟨a0, a1, a2⟩ := cells3 HFF.h.a
              go_wp2_with fail
              have hl5 := heap_lt ((HFF.set4 false).alloc (.cells #[.int .i64 5] 3)).x
              refine (rmark_1 ((HFF.set4 false).alloc (.cells #[.int .i64 5] 3)).h.r P hP v4.heap.size _ (heap_new_set _ _ _ _)).mono ?_
              rintro e v5 ⟨rfl, r5, k5⟩
              replace HFF := ((HFF.set4 false).alloc (.cells #[.int .i64 5] 3)).marked hl5 r5 k5
              clear x0 x1 x2 x3 x4 xf a0 a1 a2 r5 k5 hl5
              obtain ⟨a0, a1, a2⟩ := cells3 HFF.h.a
              have al := heap_lt HFF.h.a
              go_wp2_with fail
              have hl6 := heap_lt (HFF.alloc (.cells #[.int .i64 5] 3)).x
              refine (rmark_1 (HFF.alloc (.cells #[.int .i64 5] 3)).h.r T hT v5.heap.size _ (heap_new _ _)).mono ?_
              rintro e v6 ⟨rfl, r6, k6⟩
              replace HFF := (HFF.alloc (.cells #[.int .i64 5] 3)).marked hl6 r6 k6
              clear a0 a1 a2 al r6 k6 hl6
              obtain ⟨x0, x1, x2, x3, x4⟩ := cells5 HFF.x
              have hr := HRR.out
              obtain ⟨z0, z1, z2, z3, z4⟩ := cells5 (HFF.h).z
              have zf : ∀ j, (v6).frozen? ⟨w.heap.size + 1, j, .none⟩ = false := fun j => free_at (HFF.h).z
              have CS := Lib.hid (cell_sets (HFF.h).z (.int .u32 (F : Nat)) (.int .u32 (P : Nat)) (.int .u32 (T : Nat)) (.bool true) (.bool false))
              have HE := Lib.hid (rfind_end (HFF.h) ⟨F, P, T, true, false⟩ (-1) (HFR.out.trans hr))
              clear hr
              go_wp2_with fail
              change bodyPost _ _ _ _ _ (sets5 (v6) (w.heap.size + 1) (.int .u32 (F : Nat)) (.int .u32 (P : Nat)) (.int .u32 (T : Nat)) (.bool true) (.bool false))
              obtain ⟨y0, y1, y2, y3, y4⟩ := CS.out
              have HE2 := HE.out
              change RFindEnd w b S _ _ (sets5 (v6) (w.heap.size + 1) (.int .u32 (F : Nat)) (.int .u32 (P : Nat)) (.int .u32 (T : Nat)) (.bool true) (.bool false)) at HE2
              rw [HFR.out] at HE2
              clear CS HE z0 z1 z2 z3 z4 zf
              generalize sets5 (v6) (w.heap.size + 1) (.int .u32 (F : Nat)) (.int .u32 (P : Nat)) (.int .u32 (T : Nat)) (.bool true) (.bool false) = Wf at *
              refine bodyPost_ret (v := .tuple #[.agg #[.int .u32 (F : Nat), .int .u32 (P : Nat), .int .u32 (T : Nat), .bool true, .bool false], .int .i64 (-1)]) (by simp [results, Try.results19, go_sem, y0, y1, y2, y3, y4]) rfl ?_
              exact HE2
            · have hr := HR3.out
              simp only [show (one / 2 % 2 == 1) = true from h3, show (two / 2 % 2 == 1) = true from h4, show (one / 4 % 2 == 1) = true from h5, show (two / 4 % 2 == 1) = true from h6, Bool.true_and] at hr
              rw [if_neg (by cases wp <;> decide)] at hr
              rw [HF.out] at hr
              replace hr := hr.symm
              change fr = (⟨F, P, T, true, true⟩, (-1 : Int), (R.mark P 32).mark T 32) at hr
              have G3 := Lib.hid h3
              clear h3
              have G5 := Lib.hid h5
              clear h5
              have G4 := Lib.hid h4
              clear h4
              have G6 := Lib.hid h6
              clear h6
              have HRR := Lib.hid hr
              clear hr HR3
              go_wp2_with fail
              refine (rhas_z _ one 1 _ _ (by omega) rfl one32 (by decide)).mono ?_
              rintro e wz ⟨rfl, nz, rfl⟩
              rw [G3.out]
              replace HFF := HFF.drewN nz
              generalize (wx.alloc (.cells #[.int .u32 (F : Nat), .int .u32 (P : Nat), .int .u32 (T : Nat), .bool false, .bool false] 38)).drewN nz = v1 at *
              go_wp2_with fail
              refine (rhas_z _ two 1 _ _ (by omega) rfl two32 (by decide)).mono ?_
              rintro e wz ⟨rfl, nz, rfl⟩
              rw [G4.out]
              replace HFF := HFF.drewN nz
              generalize v1.drewN nz = v2 at *
              obtain ⟨x0, x1, x2, x3, x4⟩ := cells5 HFF.x
              have xf : ∀ j, v2.frozen? ⟨wx.heap.size, j, .none⟩ = false := fun j => free_at HFF.x
              go_wp2_with fail
              refine (rhas_z _ one 2 _ _ (by omega) rfl one32 (by decide)).mono ?_
              rintro e wz ⟨rfl, nz, rfl⟩
              rw [G5.out]
              replace HFF := (HFF.set3 true).drewN nz
              clear x0 x1 x2 x3 x4 xf
              generalize (v2.setCell ⟨wx.heap.size, 3, .none⟩ (.bool true)).drewN nz = v3 at *
              go_wp2_with fail
              refine (rhas_z _ two 2 _ _ (by omega) rfl two32 (by decide)).mono ?_
              rintro e wz ⟨rfl, nz, rfl⟩
              rw [G6.out]
              replace HFF := HFF.drewN nz
              generalize v3.drewN nz = v4 at *
              obtain ⟨x0, x1, x2, x3, x4⟩ := cells5 HFF.x
              have xf : ∀ j, v4.frozen? ⟨wx.heap.size, j, .none⟩ = false := fun j => free_at HFF.x
              obtain ⟨a0, a1, a2⟩ := cells3 HFF.h.a
              go_wp2_with fail
              have hl5 := heap_lt ((HFF.set4 true).alloc (.cells #[.int .i64 5] 3)).x
              refine (rmark_1 ((HFF.set4 true).alloc (.cells #[.int .i64 5] 3)).h.r P hP v4.heap.size _ (heap_new_set _ _ _ _)).mono ?_
              rintro e v5 ⟨rfl, r5, k5⟩
              replace HFF := ((HFF.set4 true).alloc (.cells #[.int .i64 5] 3)).marked hl5 r5 k5
              clear x0 x1 x2 x3 x4 xf a0 a1 a2 r5 k5 hl5
              obtain ⟨a0, a1, a2⟩ := cells3 HFF.h.a
              have al := heap_lt HFF.h.a
              go_wp2_with fail
              have hl6 := heap_lt (HFF.alloc (.cells #[.int .i64 5] 3)).x
              refine (rmark_1 (HFF.alloc (.cells #[.int .i64 5] 3)).h.r T hT v5.heap.size _ (heap_new _ _)).mono ?_
              rintro e v6 ⟨rfl, r6, k6⟩
              replace HFF := (HFF.alloc (.cells #[.int .i64 5] 3)).marked hl6 r6 k6
              clear a0 a1 a2 al r6 k6 hl6
              obtain ⟨x0, x1, x2, x3, x4⟩ := cells5 HFF.x
              have hr := HRR.out
              obtain ⟨z0, z1, z2, z3, z4⟩ := cells5 (HFF.h).z
              have zf : ∀ j, (v6).frozen? ⟨w.heap.size + 1, j, .none⟩ = false := fun j => free_at (HFF.h).z
              have CS := Lib.hid (cell_sets (HFF.h).z (.int .u32 (F : Nat)) (.int .u32 (P : Nat)) (.int .u32 (T : Nat)) (.bool true) (.bool true))
              have HE := Lib.hid (rfind_end (HFF.h) ⟨F, P, T, true, true⟩ (-1) (HFR.out.trans hr))
              clear hr
              go_wp2_with fail
              change bodyPost _ _ _ _ _ (sets5 (v6) (w.heap.size + 1) (.int .u32 (F : Nat)) (.int .u32 (P : Nat)) (.int .u32 (T : Nat)) (.bool true) (.bool true))
              obtain ⟨y0, y1, y2, y3, y4⟩ := CS.out
              have HE2 := HE.out
              change RFindEnd w b S _ _ (sets5 (v6) (w.heap.size + 1) (.int .u32 (F : Nat)) (.int .u32 (P : Nat)) (.int .u32 (T : Nat)) (.bool true) (.bool true)) at HE2
              rw [HFR.out] at HE2
              clear CS HE z0 z1 z2 z3 z4 zf
              generalize sets5 (v6) (w.heap.size + 1) (.int .u32 (F : Nat)) (.int .u32 (P : Nat)) (.int .u32 (T : Nat)) (.bool true) (.bool true) = Wf at *
              refine bodyPost_ret (v := .tuple #[.agg #[.int .u32 (F : Nat), .int .u32 (P : Nat), .int .u32 (T : Nat), .bool true, .bool true], .int .i64 (-1)]) (by simp [results, Try.results19, go_sem, y0, y1, y2, y3, y4]) rfl ?_
              exact HE2
end Go.Proofs.Ythogfhejfnmdkaa
