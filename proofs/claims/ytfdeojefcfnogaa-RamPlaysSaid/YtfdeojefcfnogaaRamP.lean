/- ram's law RamPlays: the document's Written. -/
import Derived.Test.YtfdeojefcfnogaaRamO
namespace Go.Proofs.Ytfdeojefcfnogaa
open Go.RowKit Go.MapKept
set_option linter.unusedVariables false

theorem info32w : (Try.prog.info? 23).map (fun i => (i.zero, i.size, i.bytes)) = some (some (.int .u32 0), 1, 4) := by kernel_rfl
section
variable {w0 w : World} {A0 : Nat → Prop} {os : List Ob} {b : Nat} {R : RS}
theorem Hp.lone {A : Nat → Prop} {o : Ob} (h : o.P w A) : Hp w A w [o] := ⟨A, ⟨A, fun _ => False, h, fun _ h => h, fun _ _ h => h, fun k => ⟨.inl, fun h => h.elim id False.elim⟩⟩, Moves.refl _ _⟩
def gl (R : RS) : List Nat := wantL (fun g => R.noted (g * 64)) (R.pages * 64)
set_option maxRecDepth 100000 in
set_option maxHeartbeats 4000000 in
theorem told_one (T : Hp w0 A0 w [oDoc b R]) (hN : Nd R) :
    Calls Try.prog 21 #[.pointer (some ⟨b, 0, .none⟩)] w fun e w' => ∃ a c, e = .returned (.slice a (gl R).length c) ∧ Hp w0 A0 w' [oDoc b R.told, oRowC 23 (.slice a (gl R).length c) (gl R).length (wordsL (gl R))] := by
  have h256 := (T.docok 0 rfl).p2
  have T1 := T.new (o := oRowC 23 (.slice none 0 0) 0 []) (Below.refl _ _) (A := fun _ => False) ⟨RowC.nil _ _ _, fun j => ⟨fun h => h.elim, fun h => by cases h⟩⟩ (fun j h => h.elim)
  have HT := Lib.hid (show Hp w0 A0 w [oDoc b R, oRowC 23 (.slice none 0 0) 0 []] from T1)
  clear T1 T
  obtain ⟨p, hp⟩ : ∃ p : Nat → Bool, p = fun g => R.noted (g * 64) := ⟨_, rfl⟩
  have HPP := Lib.hid hp
  have hgl : gl R = wantL p (R.pages * 64) := by rw [hp]; rfl
  have HGL := Lib.hid hgl
  have hNN := Lib.hid hN
  clear hp hgl hN
  go_enter Try.func21, Try.ntmps21
  go_wp2_with fail
  go_loopg [3, 4] (R.pages * 64) (fun n s3 s4 wc => ∃ (m : Nat) (a : Option Addr) (c : Nat), s3 = .slice a (wantL p m).length c ∧ s4 = .int .i64 (m : Nat) ∧ m ≤ R.pages * 64 ∧ R.pages * 64 - m ≤ n ∧ n ≤ R.pages * 64 ∧ Hp w0 A0 wc [oDoc b (R.clr m), oRowC 23 (.slice a (wantL p m).length c) (wantL p m).length (wordsL (wantL p m))])
  case atStart => exact ⟨0, none, 0, rfl, rfl, by omega, by omega, by omega, by rw [clr_zero]; exact HT.out⟩
  case round =>
    clear HT
    obtain ⟨m, a, c, rfl, rfl, hm, hn1, hn2, T⟩ := hrel
    obtain ⟨g3, k3, hk⟩ := T.mark 0 rfl
    have HT := Lib.hid T
    have hbl := cell_block_lt k3
    clear T
    have p1 : (0 : Int) ≤ (m : Int) := by omega
    by_cases hlt : m < R.pages * 64
    · obtain ⟨kc, kf, kl, T2⟩ := hk m hlt
      have hcl : (R.clr m).noted (m * 64) = R.noted (m * 64) := by unfold RS.clr; simp
      rw [hcl] at kc
      have p2 : (m : Int) < ((R.pages * 64 : Nat) : Int) := by omega
      have k3' : wr.cell? ⟨b, 3, none⟩ = some (.slice (some ⟨g3, 0, none⟩) (R.pages * 64) (R.pages * 64)) := k3
      have HT2 := Lib.hid T2
      have HU : Hid (wantL p (m + 1) = if p m then wantL p m ++ [m * 64] else wantL p m) := Lib.hid rfl
      have hpm : p m = R.noted (m * 64) := by rw [HPP.out]
      have HPM := Lib.hid hpm
      clear k3 hk hcl T2 hpm
      cases hno : R.noted (m * 64)
      · rw [hno] at kc
        have HNO := Lib.hid hno
        clear hno
        have hw : wantL p (m + 1) = wantL p m := by rw [HU.out, if_neg (by rw [HPM.out, HNO.out]; simp)]
        have HW := Lib.hid hw
        clear hw
        go_wp2_with fail
        go_roundg (R.pages * 64 - (m + 1))
        case measure => omega
        case rel => exact ⟨m + 1, a, c, by rw [HW.out], by go_num, by omega, by omega, by omega, by rw [HW.out, ← clr_skip hNN.out m HNO.out]; exact HT.out⟩
      · rw [hno] at kc
        have HNO := Lib.hid hno
        clear hno
        go_upto_region 7 with (fail)
        have T5 : Hp w0 A0 (wr.setCell ⟨g3, m, none⟩ (.bool false)) [oDoc b (R.clr (m + 1)), oRowC 23 (.slice a (wantL p m).length c) (wantL p m).length (wordsL (wantL p m))] := by rw [← clr_step hNN.out m HNO.out]; exact HT2.out
        have HT5 := Lib.hid T5
        clear T5 HT2 kc kf k3' kl hbl HT
        generalize wr.setCell ⟨g3, m, none⟩ (.bool false) = w5 at *
        obtain ⟨i0, hi, hz0, hz1, hz2⟩ := info_parts info32w
        have hlen := want_len p m
        have HROW := Lib.hid (HT5.out.rowC 1 rfl)
        have hc1 := Lib.hid (one_new w5 23 (.int .u32 ((m : Int) * 64)))
        have HOS := Lib.hid (HT5.out.alloc (.cells #[.int .u32 ((m : Int) * 64)] 23))
        have hm3 : (m : Int) < 16384 := by omega
        go_wp2_with (at_builtin; (refine wpList_append_c rfl _ _ 35 rfl i0 (.int .u32 0) 1 4 Try.underlying35 hi hz0 hz1 hz2 rfl (by decide) rfl (HROW.out.alloc (.cells #[.int .u32 ((m : Int) * 64)] 23)) ⟨w5.heap.size, 0, none⟩ 1 [.int .u32 ((m : Int) * 64)] rfl rfl hc1.out (fun u hu => by rw [List.mem_singleton.1 hu]; rfl) (by unfold maxLen; omega) (by omega) ?_); intro a6 c6 w6 hown hgrow hsub)
        have hL2 : wantL p (m + 1) = wantL p m ++ [m * 64] := by rw [HU.out, if_pos (by rw [HPM.out, HNO.out])]
        have hown2 : RowC w6 23 1 (.slice a6 ((wantL p m).length + 1) c6) (wantL p (m + 1)).length (wordsL (wantL p (m + 1))) := by
          rw [hL2, List.length_append, wordsL_snoc, show ((m * 64 : Nat) : Int) = (m : Int) * 64 from by omega]
          exact hown
        have T6 := HOS.out.grownC 1 rfl hown2 hgrow hsub
        have hl2 : (wantL p (m + 1)).length = (wantL p m).length + 1 := by rw [hL2, List.length_append]; rfl
        have HT6 := Lib.hid (show Hp w0 A0 w6 [oDoc b (R.clr (m + 1)), oRowC 23 (.slice a6 (wantL p (m + 1)).length c6) (wantL p (m + 1)).length (wordsL (wantL p (m + 1)))] from by rw [← hl2] at T6; exact T6)
        have HL2 := Lib.hid hl2
        clear hown hown2 hgrow T6 hsub hL2 hl2
        go_wp2_with fail
        go_roundg (R.pages * 64 - (m + 1))
        case measure => omega
        case rel => exact ⟨m + 1, a6, c6, by rw [HL2.out], by go_num, by omega, by omega, by omega, HT6.out⟩
    · obtain rfl : m = R.pages * 64 := by omega
      have p2 : ¬ (((R.pages * 64 : Nat) : Int) < ((R.pages * 64 : Nat) : Int)) := by omega
      rw [clr_done hNN.out, ← HGL.out] at HT
      have k3' : wr.cell? ⟨b, 3, none⟩ = some (.slice (some ⟨g3, 0, none⟩) (R.pages * 64) (R.pages * 64)) := k3
      clear k3 hk hlt
      rw [← HGL.out]
      go_wp2_with fail
      go_ret
      exact ⟨a, c, rfl, HT.out⟩
/-- Written: the row is handed out. -/
theorem d_told (T : Hp w0 A0 w os) (i : Nat) (hi : os[i]? = some (oDoc b R)) (hN : Nd R) :
    Calls Try.prog 21 #[.pointer (some ⟨b, 0, .none⟩)] w fun e w' => ∃ v, e = .returned v ∧ Hp w0 A0 w' (os.set i (oDoc b R.told) ++ [oRowC 23 v (gl R).length (wordsL (gl R))]) := by
  refine (T.call i (Q := fun e o => ∃ v, e = .returned v ∧ o = Ob.all [oDoc b R.told, oRowC 23 v (gl R).length (wordsL (gl R))]) hi fun A H => ?_).mono ?_
  · refine (told_one (Hp.lone H) hN).mono ?_
    rintro e w1 ⟨a, c, rfl, T1⟩
    exact ⟨_, ⟨_, rfl, rfl⟩, T1.end_⟩
  · rintro e w1 ⟨o, ⟨v, rfl, rfl⟩, T1⟩
    have hlt : i < os.length := (List.getElem?_eq_some_iff.1 hi).1
    have h3 := T1.two i (x := oDoc b R.told) (y := oRowC 23 v (gl R).length (wordsL (gl R))) (by rw [List.getElem?_set_self hlt])
    rw [List.set_set] at h3
    exact ⟨v, rfl, h3⟩
end
end Go.Proofs.Ytfdeojefcfnogaa
