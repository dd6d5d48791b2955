/- Steps of a proof: FindFT, FindTF, together. -/
import Derived.Test.YtmpcafdgkbpneaaGreatS2
/- page.Find, for one kind of access. -/
set_option maxHeartbeats 8000000
set_option maxRecDepth 20000
namespace Go.Proofs.YtmpcafdgkbpneaaGreat
open Go.RowKit Go.MapKept
set_option linter.unusedVariables false

set_option maxRecDepth 100000 in
theorem find_ft {w : World} {b : Nat} {S : Nat → Prop} {R : RS} (H : Ram w b S R) (cr3 lin : Nat) (hc : cr3 < 4294967296) (hl : lin < 4294967296) (wp : Bool) :
    Calls Tryz.prog 202 #[.pointer (some ⟨b, 0, .none⟩), .int .u32 cr3, .int .u32 lin, .agg #[.bool false, .bool true, .bool wp]] w (FindEnd w b S (find R cr3 lin false true wp)) := by
 have f1 := a4095 cr3 hc
 have f2 := s22 lin hl
 have f3 := s12 lin hl
 have o1 : bits .or .i64 0 2 = 2 := by decide
 have o2 : bits .or .i64 2 4 = 6 := by decide
 have o3 : bits .or .i64 0 4 = 4 := by decide
 have o4 : bits .or .i64 4 1 = 5 := by decide
 have hP := pde_lt cr3 lin hc hl
 have eP : (cr3 : Int) / 4096 * 4096 + (lin : Int) / 4194304 * 4 = (pdeOf cr3 lin : Nat) := by unfold pdeOf; omega
 generalize hPe : pdeOf cr3 lin = P at *
 have HP := Lib.hid hPe
 clear hPe
 go_enter Tryz.func202, Tryz.ntmps202
 go_wp2_with fail
 refine wp_loop_rounds 3 ?_
 rw [rounds_succ]
 go_wp2_with fail
 refine (read_4 (((H.alloc _).alloc _).alloc _) P hP).mono ?_
 rintro e w1 ⟨rfl, n1, rfl⟩
 have one32 : R.read P 4 < 4294967296 := RS.read_lt H.isok _ 4
 generalize hone : R.read P 4 = one at *
 have HONE := Lib.hid hone
 clear hone
 have g1 := and_all one one32
 have g2 := and_1 one one32
 by_cases h1 : one % 2 = 0
 ·have g3 : ((one : Int) % 2 == 0) = true := by rw [beq_iff_eq]; omega
  have H1 := Lib.hid h1
  clear h1
  go_wp2_with fail
  go_returns
  exact find_no H H1.out (by rw [HP.out]; exact HONE.out) (by repeat' (first | (with_reducible exact Below.refl _ _) | (with_reducible refine Below.setCell ?_ (by first | (simp; done) | (simp; omega)) _) | (with_reducible refine below_dn ?_ _) | (with_reducible refine Below.alloc ?_ (by first | (simp; done) | (simp; omega)) _)))
 ·have g3 : ((one : Int) % 2 == 0) = false := by rw [beq_eq_false_iff_ne]; omega
  have H1 := Lib.hid h1
  clear h1
  go_wp2_with fail
  rw [rounds_succ]
  have e4 := a4095 one one32
  have hT := pte_lt one lin one32
  have eT : (one : Int) / 4096 * 4096 + (lin : Int) / 4096 % 1024 * 4 = (pteOf one lin : Nat) := by unfold pteOf; omega
  generalize hTe : pteOf one lin = T at *
  have HT := Lib.hid hTe
  clear hTe
  go_wp2_with fail
  refine (read_4 (H.below (by repeat' (first | (with_reducible exact Below.refl _ _) | (with_reducible refine Below.setCell ?_ (by first | (simp; done) | (simp; omega)) _) | (with_reducible refine below_dn ?_ _) | (with_reducible refine Below.alloc ?_ (by first | (simp; done) | (simp; omega)) _)))) T hT).mono ?_
  rintro e w2 ⟨rfl, n2, rfl⟩
  have two32 : R.read T 4 < 4294967296 := RS.read_lt H.isok _ 4
  generalize htwo : R.read T 4 = two at *
  have HTWO := Lib.hid htwo
  clear htwo g1 g2 g3
  have g1 := u32_and_nat one two one32 two32
  have B32 : one &&& two < 4294967296 := Nat.lt_of_le_of_lt Nat.and_le_left one32
  have hB1 : (one &&& two) % 2 = two % 2 := both_bit one two H1.out
  obtain ⟨wB, hwB⟩ : ∃ y : Bool, y = (one / 2 % 2 == 1 && two / 2 % 2 == 1) := ⟨_, rfl⟩
  obtain ⟨uB, huB⟩ : ∃ y : Bool, y = (one / 4 % 2 == 1 && two / 4 % 2 == 1) := ⟨_, rfl⟩
  have q2 : (((one &&& two : Nat) : Int) / 2 % 2 * 2 != 0) = wB := by
   have := bit_ne ((one &&& two) / 2) 2 (by decide)
   rw [hwB, ← and_bit one two 1, show (2 : Nat) ^ 1 = 2 from rfl, ← this]; simp
  have q4 : (((one &&& two : Nat) : Int) / 4 % 2 * 4 != 0) = uB := by
   have := bit_ne ((one &&& two) / 4) 4 (by decide)
   rw [huB, ← and_bit one two 2, show (2 : Nat) ^ 2 = 4 from rfl, ← this]; simp
  have HWB := Lib.hid hwB
  have HUB := Lib.hid huB
  clear hwB huB
  generalize one &&& two = B at *
  have g4 := and_1 B B32
  have g5 := and_2 B B32
  have g6 := and_4 B B32
  by_cases h2 : two % 2 = 0
  ·have g3 : ((B : Int) % 2 == 0) = true := by rw [beq_iff_eq]; omega
   have H2 := Lib.hid h2
   clear h2 hB1
   go_wp2_with fail
   go_returns
   exact find_no2 H H1.out (by rw [HP.out]; exact HONE.out) H2.out (by rw [HT.out]; exact HTWO.out) (by repeat' (first | (with_reducible exact Below.refl _ _) | (with_reducible refine Below.setCell ?_ (by first | (simp; done) | (simp; omega)) _) | (with_reducible refine below_dn ?_ _) | (with_reducible refine Below.alloc ?_ (by first | (simp; done) | (simp; omega)) _)))
  ·have g3 : ((B : Int) % 2 == 0) = false := by rw [beq_eq_false_iff_ne]; omega
   have H2 := Lib.hid h2
   clear h2 hB1
   have e5 := a4095 two two32
   go_wp2_with fail
   rw [rounds_succ]
   cases uB
   ·
    go_wp2_with fail
    go_returns
    exact find_bad H H1.out (by rw [HP.out]; exact HONE.out) H2.out (by rw [HT.out]; exact HTWO.out) HWB.out HUB.out rfl (by repeat' (first | (with_reducible exact Below.refl _ _) | (with_reducible refine Below.setCell ?_ (by first | (simp; done) | (simp; omega)) _) | (with_reducible refine below_dn ?_ _) | (with_reducible refine Below.alloc ?_ (by first | (simp; done) | (simp; omega)) _)))
   ·
    go_wp2_with fail
    clear e5
    go_loopw [112] (fun i wr => ∃ k : Nat, k ≤ 2 ∧ i = .int .i64 k ∧ FRel w wr b S (w.heap.size + 1 + 1) (w.heap.size + 1 + 1 + 1 + 1) (w.heap.size + 1 + 1 + 1) (w.heap.size + 1) P T 32 ⟨two / 4096 * 4096, P, T, wB, true⟩ (marks R P T 32 k)) (fun i _ => 2 - (intOf i).toNat)
    case atStart =>
     refine ⟨0, by omega, rfl, ⟨S, by rw [marks_zero]; exact H.below (by repeat' (first | (with_reducible exact Below.refl _ _) | (with_reducible refine Below.setCell ?_ (by first | (simp; done) | (simp; omega)) _) | (with_reducible refine below_dn ?_ _) | (with_reducible refine Below.alloc ?_ (by first | (simp; done) | (simp; omega)) _))), Moves.ofBelow (by repeat' (first | (with_reducible exact Below.refl _ _) | (with_reducible refine Below.setCell ?_ (by first | (simp; done) | (simp; omega)) _) | (with_reducible refine below_dn ?_ _) | (with_reducible refine Below.alloc ?_ (by first | (simp; done) | (simp; omega)) _))), fun i hi => by have := H.lt hi; omega⟩, ?_, ?_, ?_, ?_⟩
     all_goals
      clear f1 f2 f3 o1 o2 o3 o4 g1 g3 g4 g5 g6 e4 q2 q4 eP eT H1 H2 HONE HTWO HWB HUB
      simp only [heap_drewN', setCell_heap, alloc_heap', Array.getElem?_modify, Array.getElem?_push, Array.size_push, Array.size_modify]
      repeat (first | rw [if_neg (by omega)] | rw [if_pos (by omega)])
      simp [putObj]
    case round =>
     obtain ⟨k, hk, rfl, ⟨S', HS, Mv, nn⟩, hh⟩ := hrel
     have c0 : wr.cell? ⟨w.heap.size + 1 + 1, 0, .none⟩ = some (.int .u32 (P : Nat)) := by rw [cell_at hh.a]; rfl
     have c1 : wr.cell? ⟨w.heap.size + 1 + 1, 1, .none⟩ = some (.int .u32 (T : Nat)) := by rw [cell_at hh.a]; rfl
     have c2 : wr.cell? ⟨w.heap.size + 1 + 1 + 1 + 1, 0, .none⟩ = some (.int .u32 32) := by rw [cell_at hh.m]; rfl
     have c3 : wr.cell? ⟨w.heap.size + 1 + 1 + 1 + 1, 1, .none⟩ = some (.int .u32 32) := by rw [cell_at hh.m]; rfl
     clear f1 f2 f3 o1 o2 o3 o4 g1 g3 g4 g5 g6 e4 q2 q4 eP eT
     by_cases hk2 : k < 2
     ·obtain ⟨a, m, Rk, ca, cm, ha, hm, er, en⟩ : ∃ (a m : Nat) (Rk : RS), wr.cell? ⟨w.heap.size + 1 + 1, k, .none⟩ = some (.int .u32 (a : Nat)) ∧ wr.cell? ⟨w.heap.size + 1 + 1 + 1 + 1, k, .none⟩ = some (.int .u32 (m : Nat)) ∧ a < 4294967296 ∧ m < 4294967296 ∧
          marks R P T 32 k = Rk ∧ marks R P T 32 (k + 1) = Rk.mark a m := by
        rcases (show k = 0 ∨ k = 1 by omega) with rfl | rfl
        ·exact ⟨P, 32, R, c0, c2, hP, by decide, marks_zero _ _ _ _, marks_one _ _ _ _⟩
        ·exact ⟨T, 32, R.mark P 32, c1, c3, hT, by decide, marks_one _ _ _ _, marks_two _ _ _ _⟩
      rw [er] at HS
      have EN := Lib.hid en
      clear c0 c1 c2 c3 er en
      have q1 : (0 : Int) ≤ (k : Int) := by omega
      have q2 : (k : Int) < 2 := by omega
      go_wp2_with fail
      refine (read_4 HS a ha).mono ?_
      rintro e w3 ⟨rfl, n3, rfl⟩
      have n32 : Rk.read a 4 < 4294967296 := RS.read_lt HS.isok _ 4
      have hor : bits .or .u32 ((Rk.read a 4 : Nat) : Int) (m : Int) = (((Rk.read a 4) ||| m : Nat) : Int) := u32_or_nat _ m n32 hm
      have om32 : (Rk.read a 4) ||| m < 4294967296 := Nat.or_lt_two_pow (n := 32) n32 hm
      have HMS := Lib.hid (mark_same Rk a m)
      have HMN := Lib.hid (mark_new Rk a m)
      have HS2 := HS.drewN n3
      have Mv2 := Mv.trans (Moves.drewN S' _ n3)
      by_cases hsame : (Rk.read a 4) ||| m = Rk.read a 4
      ·have FR : FRel w (wr.drewN n3) b S (w.heap.size + 1 + 1) (w.heap.size + 1 + 1 + 1 + 1) (w.heap.size + 1 + 1 + 1) (w.heap.size + 1) P T 32 ⟨two / 4096 * 4096, P, T, wB, true⟩ (marks R P T 32 (k + 1)) := by
         rw [EN.out, HMS.out hsame]
         exact ⟨⟨S', HS2, Mv2, nn⟩, ⟨hh.a, hh.m, hh.x, hh.z⟩⟩
       rw [hsame] at hor
       clear hsame HS2 Mv2 hh HS Mv om32
       generalize Rk.read a 4 = n at *
       go_wp2_with fail
       go_roundw
       case rel => exact ⟨k + 1, by omega, by go_num, FR⟩
       case measure => (simp [intOf]) <;> omega
      ·have HR := Lib.hid (HMN.out hsame)
       have hne : ((((Rk.read a 4) ||| m : Nat) : Int) != ((Rk.read a 4 : Nat) : Int)) = true := by rw [bne_iff_ne]; omega
       clear hsame HMS HMN
       generalize Rk.read a 4 = n at *
       generalize n ||| m = om at *
       have ca3 : (wr.drewN n3).cell? ⟨w.heap.size + 1 + 1, k, .none⟩ = some (.int .u32 (a : Nat)) := ca
       have cm3 : (wr.drewN n3).cell? ⟨w.heap.size + 1 + 1 + 1 + 1, k, .none⟩ = some (.int .u32 (m : Nat)) := cm
       have hh3 := hh.quiet n3
       clear ca cm hh
       generalize wr.drewN n3 = W3 at *
       go_upto_region 30 with (fail)
       go_still_tail 9, (by kernel_rfl)
       change wpList _ _ _ _ _ (W3.drewN 1)
       go_wp2_with fail
       refine (write_4 (HS2.drewN 1) a om ha om32).mono ?_
       rintro e w4 ⟨rfl, S4, H4, M4⟩
       have FR : FRel w w4 b S (w.heap.size + 1 + 1) (w.heap.size + 1 + 1 + 1 + 1) (w.heap.size + 1 + 1 + 1) (w.heap.size + 1) P T 32 ⟨two / 4096 * 4096, P, T, wB, true⟩ (marks R P T 32 (k + 1)) := by
        rw [EN.out, HR.out]
        exact FRel.wrote (wr := W3.drewN 1) ⟨hh3.a, hh3.m, hh3.x, hh3.z⟩ (Mv2.trans (Moves.drewN S' _ 1)) nn H4 M4
       clear hor HR HS2 Mv2 hh3 HS Mv H4 M4 hne om32 n32 ca3 cm3
       go_wp2_with fail
       go_roundw
       case rel => exact ⟨k + 1, by omega, by go_num, FR⟩
       case measure => (simp [intOf]) <;> omega
     ·have hk3 : k = 2 := by omega
      rw [hk3] at HS
      clear hk3
      clear c0 c1 c2 c3
      have x0 : wr.cell? ⟨w.heap.size + 1 + 1 + 1, 0, .none⟩ = some (.int .u32 (two / 4096 * 4096 : Nat)) := by rw [cell_at hh.x]; rfl
      have x1 : wr.cell? ⟨w.heap.size + 1 + 1 + 1, 1, .none⟩ = some (.int .u32 (P : Nat)) := by rw [cell_at hh.x]; rfl
      have x2 : wr.cell? ⟨w.heap.size + 1 + 1 + 1, 2, .none⟩ = some (.int .u32 (T : Nat)) := by rw [cell_at hh.x]; rfl
      have x3 : wr.cell? ⟨w.heap.size + 1 + 1 + 1, 3, .none⟩ = some (.bool wB) := by rw [cell_at hh.x]; rfl
      have x4 : wr.cell? ⟨w.heap.size + 1 + 1 + 1, 4, .none⟩ = some (.bool true) := by rw [cell_at hh.x]; rfl
      have z0 : wr.cell? ⟨w.heap.size + 1, 0, .none⟩ = some (.int .u32 0) := by rw [cell_at hh.z]; rfl
      have z1 : wr.cell? ⟨w.heap.size + 1, 1, .none⟩ = some (.int .u32 0) := by rw [cell_at hh.z]; rfl
      have z2 : wr.cell? ⟨w.heap.size + 1, 2, .none⟩ = some (.int .u32 0) := by rw [cell_at hh.z]; rfl
      have z3 : wr.cell? ⟨w.heap.size + 1, 3, .none⟩ = some (.bool false) := by rw [cell_at hh.z]; rfl
      have z4 : wr.cell? ⟨w.heap.size + 1, 4, .none⟩ = some (.bool false) := by rw [cell_at hh.z]; rfl
      have CS := cell_sets hh.z (.int .u32 (two / 4096 * 4096 : Nat)) (.int .u32 (P : Nat)) (.int .u32 (T : Nat)) (.bool wB) (.bool true)
      have zf : ∀ j, wr.frozen? ⟨w.heap.size + 1, j, .none⟩ = false := fun j => free_at hh.z
      have zl := heap_lt hh.z
      have xl := heap_lt hh.x
      have hn : ¬ S' (w.heap.size + 1) := fun h => (nn _ h).2.2.2 rfl
      have HFin : Ram (sets5 wr (w.heap.size + 1) (.int .u32 (two / 4096 * 4096 : Nat)) (.int .u32 (P : Nat)) (.int .u32 (T : Nat)) (.bool wB) (.bool true)) b S' _ := ((((HS.set hn _ _).set hn _ _).set hn _ _).set hn _ _).set hn _ _
      have MFin : Moves S S' w (sets5 wr (w.heap.size + 1) (.int .u32 (two / 4096 * 4096 : Nat)) (.int .u32 (P : Nat)) (.int .u32 (T : Nat)) (.bool wB) (.bool true)) := Mv.sets5 (Nat.le_succ _) _ _ _ _ _ _ _ _ _ _
      clear hh nn
      generalize hfr : two / 4096 * 4096 = fr at *
      have HFR := Lib.hid hfr
      have HCS := Lib.hid CS
      clear hfr CS
      go_wp2_with fail
      change bodyPost _ _ _ _ _ (sets5 wr (w.heap.size + 1) (.int .u32 (fr : Nat)) (.int .u32 (P : Nat)) (.int .u32 (T : Nat)) (.bool wB) (.bool true))
      obtain ⟨y0, y1, y2, y3, y4⟩ := HCS.out
      clear HCS x0 x1 x2 x3 x4 z0 z1 z2 z3 z4 zf zl xl
      generalize sets5 wr (w.heap.size + 1) (.int .u32 (fr : Nat)) (.int .u32 (P : Nat)) (.int .u32 (T : Nat)) (.bool wB) (.bool true) = Wf at *
      refine bodyPost_ret (v := .tuple #[.agg #[.int .u32 (fr : Nat), .int .u32 (P : Nat), .int .u32 (T : Nat), .bool wB, .bool true], .int .i64 (-1), .int .i64 0]) (by simp [results, Tryz.results202, go_sem, y0, y1, y2, y3, y4]) rfl ?_
      rw [← HFR.out]
      exact find_good' HP.out HT.out H1.out HONE.out H2.out HTWO.out HWB.out HUB.out rfl HFin MFin
end Go.Proofs.YtmpcafdgkbpneaaGreat

/- page.Find, for one kind of access. -/
namespace Go.Proofs.YtmpcafdgkbpneaaGreat
open Go.RowKit Go.MapKept
set_option linter.unusedVariables false

set_option maxRecDepth 100000 in
theorem find_tf {w : World} {b : Nat} {S : Nat → Prop} {R : RS} (H : Ram w b S R) (cr3 lin : Nat) (hc : cr3 < 4294967296) (hl : lin < 4294967296) (wp : Bool) :
    Calls Tryz.prog 202 #[.pointer (some ⟨b, 0, .none⟩), .int .u32 cr3, .int .u32 lin, .agg #[.bool true, .bool false, .bool wp]] w (FindEnd w b S (find R cr3 lin true false wp)) := by
 have f1 := a4095 cr3 hc
 have f2 := s22 lin hl
 have f3 := s12 lin hl
 have o1 : bits .or .i64 0 2 = 2 := by decide
 have o2 : bits .or .i64 2 4 = 6 := by decide
 have o3 : bits .or .i64 0 4 = 4 := by decide
 have o4 : bits .or .i64 2 1 = 3 := by decide
 have o5 : bits .or .u32 32 64 = 96 := by decide
 have hP := pde_lt cr3 lin hc hl
 have eP : (cr3 : Int) / 4096 * 4096 + (lin : Int) / 4194304 * 4 = (pdeOf cr3 lin : Nat) := by unfold pdeOf; omega
 generalize hPe : pdeOf cr3 lin = P at *
 have HP := Lib.hid hPe
 clear hPe
 go_enter Tryz.func202, Tryz.ntmps202
 go_wp2_with fail
 refine wp_loop_rounds 3 ?_
 rw [rounds_succ]
 go_wp2_with fail
 refine (read_4 (((H.alloc _).alloc _).alloc _) P hP).mono ?_
 rintro e w1 ⟨rfl, n1, rfl⟩
 have one32 : R.read P 4 < 4294967296 := RS.read_lt H.isok _ 4
 generalize hone : R.read P 4 = one at *
 have HONE := Lib.hid hone
 clear hone
 have g1 := and_all one one32
 have g2 := and_1 one one32
 by_cases h1 : one % 2 = 0
 ·have g3 : ((one : Int) % 2 == 0) = true := by rw [beq_iff_eq]; omega
  have H1 := Lib.hid h1
  clear h1
  go_wp2_with fail
  go_returns
  exact find_no H H1.out (by rw [HP.out]; exact HONE.out) (by repeat' (first | (with_reducible exact Below.refl _ _) | (with_reducible refine Below.setCell ?_ (by first | (simp; done) | (simp; omega)) _) | (with_reducible refine below_dn ?_ _) | (with_reducible refine Below.alloc ?_ (by first | (simp; done) | (simp; omega)) _)))
 ·have g3 : ((one : Int) % 2 == 0) = false := by rw [beq_eq_false_iff_ne]; omega
  have H1 := Lib.hid h1
  clear h1
  go_wp2_with fail
  rw [rounds_succ]
  have e4 := a4095 one one32
  have hT := pte_lt one lin one32
  have eT : (one : Int) / 4096 * 4096 + (lin : Int) / 4096 % 1024 * 4 = (pteOf one lin : Nat) := by unfold pteOf; omega
  generalize hTe : pteOf one lin = T at *
  have HT := Lib.hid hTe
  clear hTe
  go_wp2_with fail
  refine (read_4 (H.below (by repeat' (first | (with_reducible exact Below.refl _ _) | (with_reducible refine Below.setCell ?_ (by first | (simp; done) | (simp; omega)) _) | (with_reducible refine below_dn ?_ _) | (with_reducible refine Below.alloc ?_ (by first | (simp; done) | (simp; omega)) _)))) T hT).mono ?_
  rintro e w2 ⟨rfl, n2, rfl⟩
  have two32 : R.read T 4 < 4294967296 := RS.read_lt H.isok _ 4
  generalize htwo : R.read T 4 = two at *
  have HTWO := Lib.hid htwo
  clear htwo g1 g2 g3
  have g1 := u32_and_nat one two one32 two32
  have B32 : one &&& two < 4294967296 := Nat.lt_of_le_of_lt Nat.and_le_left one32
  have hB1 : (one &&& two) % 2 = two % 2 := both_bit one two H1.out
  obtain ⟨wB, hwB⟩ : ∃ y : Bool, y = (one / 2 % 2 == 1 && two / 2 % 2 == 1) := ⟨_, rfl⟩
  obtain ⟨uB, huB⟩ : ∃ y : Bool, y = (one / 4 % 2 == 1 && two / 4 % 2 == 1) := ⟨_, rfl⟩
  have q2 : (((one &&& two : Nat) : Int) / 2 % 2 * 2 != 0) = wB := by
   have := bit_ne ((one &&& two) / 2) 2 (by decide)
   rw [hwB, ← and_bit one two 1, show (2 : Nat) ^ 1 = 2 from rfl, ← this]; simp
  have q4 : (((one &&& two : Nat) : Int) / 4 % 2 * 4 != 0) = uB := by
   have := bit_ne ((one &&& two) / 4) 4 (by decide)
   rw [huB, ← and_bit one two 2, show (2 : Nat) ^ 2 = 4 from rfl, ← this]; simp
  have HWB := Lib.hid hwB
  have HUB := Lib.hid huB
  clear hwB huB
  generalize one &&& two = B at *
  have g4 := and_1 B B32
  have g5 := and_2 B B32
  have g6 := and_4 B B32
  by_cases h2 : two % 2 = 0
  ·have g3 : ((B : Int) % 2 == 0) = true := by rw [beq_iff_eq]; omega
   have H2 := Lib.hid h2
   clear h2 hB1
   go_wp2_with fail
   go_returns
   exact find_no2 H H1.out (by rw [HP.out]; exact HONE.out) H2.out (by rw [HT.out]; exact HTWO.out) (by repeat' (first | (with_reducible exact Below.refl _ _) | (with_reducible refine Below.setCell ?_ (by first | (simp; done) | (simp; omega)) _) | (with_reducible refine below_dn ?_ _) | (with_reducible refine Below.alloc ?_ (by first | (simp; done) | (simp; omega)) _)))
  ·have g3 : ((B : Int) % 2 == 0) = false := by rw [beq_eq_false_iff_ne]; omega
   have H2 := Lib.hid h2
   clear h2 hB1
   have e5 := a4095 two two32
   go_wp2_with fail
   rw [rounds_succ]
   cases wB
   ·
    cases wp
    ·
     go_wp2_with fail
     clear e5
     go_loopw [112] (fun i wr => ∃ k : Nat, k ≤ 2 ∧ i = .int .i64 k ∧ FRel w wr b S (w.heap.size + 1 + 1) (w.heap.size + 1 + 1 + 1 + 1) (w.heap.size + 1 + 1 + 1) (w.heap.size + 1) P T 96 ⟨two / 4096 * 4096, P, T, false, uB⟩ (marks R P T 96 k)) (fun i _ => 2 - (intOf i).toNat)
     case atStart =>
      refine ⟨0, by omega, rfl, ⟨S, by rw [marks_zero]; exact H.below (by repeat' (first | (with_reducible exact Below.refl _ _) | (with_reducible refine Below.setCell ?_ (by first | (simp; done) | (simp; omega)) _) | (with_reducible refine below_dn ?_ _) | (with_reducible refine Below.alloc ?_ (by first | (simp; done) | (simp; omega)) _))), Moves.ofBelow (by repeat' (first | (with_reducible exact Below.refl _ _) | (with_reducible refine Below.setCell ?_ (by first | (simp; done) | (simp; omega)) _) | (with_reducible refine below_dn ?_ _) | (with_reducible refine Below.alloc ?_ (by first | (simp; done) | (simp; omega)) _))), fun i hi => by have := H.lt hi; omega⟩, ?_, ?_, ?_, ?_⟩
      all_goals
       clear f1 f2 f3 o1 o2 o3 o4 o5 g1 g3 g4 g5 g6 e4 q2 q4 eP eT H1 H2 HONE HTWO HWB HUB
       simp only [heap_drewN', setCell_heap, alloc_heap', Array.getElem?_modify, Array.getElem?_push, Array.size_push, Array.size_modify]
       repeat (first | rw [if_neg (by omega)] | rw [if_pos (by omega)])
       simp [putObj]
     case round =>
      obtain ⟨k, hk, rfl, ⟨S', HS, Mv, nn⟩, hh⟩ := hrel
      have c0 : wr.cell? ⟨w.heap.size + 1 + 1, 0, .none⟩ = some (.int .u32 (P : Nat)) := by rw [cell_at hh.a]; rfl
      have c1 : wr.cell? ⟨w.heap.size + 1 + 1, 1, .none⟩ = some (.int .u32 (T : Nat)) := by rw [cell_at hh.a]; rfl
      have c2 : wr.cell? ⟨w.heap.size + 1 + 1 + 1 + 1, 0, .none⟩ = some (.int .u32 32) := by rw [cell_at hh.m]; rfl
      have c3 : wr.cell? ⟨w.heap.size + 1 + 1 + 1 + 1, 1, .none⟩ = some (.int .u32 96) := by rw [cell_at hh.m]; rfl
      clear f1 f2 f3 o1 o2 o3 o4 o5 g1 g3 g4 g5 g6 e4 q2 q4 eP eT
      by_cases hk2 : k < 2
      ·obtain ⟨a, m, Rk, ca, cm, ha, hm, er, en⟩ : ∃ (a m : Nat) (Rk : RS), wr.cell? ⟨w.heap.size + 1 + 1, k, .none⟩ = some (.int .u32 (a : Nat)) ∧ wr.cell? ⟨w.heap.size + 1 + 1 + 1 + 1, k, .none⟩ = some (.int .u32 (m : Nat)) ∧ a < 4294967296 ∧ m < 4294967296 ∧
           marks R P T 96 k = Rk ∧ marks R P T 96 (k + 1) = Rk.mark a m := by
         rcases (show k = 0 ∨ k = 1 by omega) with rfl | rfl
         ·exact ⟨P, 32, R, c0, c2, hP, by decide, marks_zero _ _ _ _, marks_one _ _ _ _⟩
         ·exact ⟨T, 96, R.mark P 32, c1, c3, hT, by decide, marks_one _ _ _ _, marks_two _ _ _ _⟩
       rw [er] at HS
       have EN := Lib.hid en
       clear c0 c1 c2 c3 er en
       have q1 : (0 : Int) ≤ (k : Int) := by omega
       have q2 : (k : Int) < 2 := by omega
       go_wp2_with fail
       refine (read_4 HS a ha).mono ?_
       rintro e w3 ⟨rfl, n3, rfl⟩
       have n32 : Rk.read a 4 < 4294967296 := RS.read_lt HS.isok _ 4
       have hor : bits .or .u32 ((Rk.read a 4 : Nat) : Int) (m : Int) = (((Rk.read a 4) ||| m : Nat) : Int) := u32_or_nat _ m n32 hm
       have om32 : (Rk.read a 4) ||| m < 4294967296 := Nat.or_lt_two_pow (n := 32) n32 hm
       have HMS := Lib.hid (mark_same Rk a m)
       have HMN := Lib.hid (mark_new Rk a m)
       have HS2 := HS.drewN n3
       have Mv2 := Mv.trans (Moves.drewN S' _ n3)
       by_cases hsame : (Rk.read a 4) ||| m = Rk.read a 4
       ·have FR : FRel w (wr.drewN n3) b S (w.heap.size + 1 + 1) (w.heap.size + 1 + 1 + 1 + 1) (w.heap.size + 1 + 1 + 1) (w.heap.size + 1) P T 96 ⟨two / 4096 * 4096, P, T, false, uB⟩ (marks R P T 96 (k + 1)) := by
          rw [EN.out, HMS.out hsame]
          exact ⟨⟨S', HS2, Mv2, nn⟩, ⟨hh.a, hh.m, hh.x, hh.z⟩⟩
        rw [hsame] at hor
        clear hsame HS2 Mv2 hh HS Mv om32
        generalize Rk.read a 4 = n at *
        go_wp2_with fail
        go_roundw
        case rel => exact ⟨k + 1, by omega, by go_num, FR⟩
        case measure => (simp [intOf]) <;> omega
       ·have HR := Lib.hid (HMN.out hsame)
        have hne : ((((Rk.read a 4) ||| m : Nat) : Int) != ((Rk.read a 4 : Nat) : Int)) = true := by rw [bne_iff_ne]; omega
        clear hsame HMS HMN
        generalize Rk.read a 4 = n at *
        generalize n ||| m = om at *
        have ca3 : (wr.drewN n3).cell? ⟨w.heap.size + 1 + 1, k, .none⟩ = some (.int .u32 (a : Nat)) := ca
        have cm3 : (wr.drewN n3).cell? ⟨w.heap.size + 1 + 1 + 1 + 1, k, .none⟩ = some (.int .u32 (m : Nat)) := cm
        have hh3 := hh.quiet n3
        clear ca cm hh
        generalize wr.drewN n3 = W3 at *
        go_upto_region 30 with (fail)
        go_still_tail 9, (by kernel_rfl)
        change wpList _ _ _ _ _ (W3.drewN 1)
        go_wp2_with fail
        refine (write_4 (HS2.drewN 1) a om ha om32).mono ?_
        rintro e w4 ⟨rfl, S4, H4, M4⟩
        have FR : FRel w w4 b S (w.heap.size + 1 + 1) (w.heap.size + 1 + 1 + 1 + 1) (w.heap.size + 1 + 1 + 1) (w.heap.size + 1) P T 96 ⟨two / 4096 * 4096, P, T, false, uB⟩ (marks R P T 96 (k + 1)) := by
         rw [EN.out, HR.out]
         exact FRel.wrote (wr := W3.drewN 1) ⟨hh3.a, hh3.m, hh3.x, hh3.z⟩ (Mv2.trans (Moves.drewN S' _ 1)) nn H4 M4
        clear hor HR HS2 Mv2 hh3 HS Mv H4 M4 hne om32 n32 ca3 cm3
        go_wp2_with fail
        go_roundw
        case rel => exact ⟨k + 1, by omega, by go_num, FR⟩
        case measure => (simp [intOf]) <;> omega
      ·have hk3 : k = 2 := by omega
       rw [hk3] at HS
       clear hk3
       clear c0 c1 c2 c3
       have x0 : wr.cell? ⟨w.heap.size + 1 + 1 + 1, 0, .none⟩ = some (.int .u32 (two / 4096 * 4096 : Nat)) := by rw [cell_at hh.x]; rfl
       have x1 : wr.cell? ⟨w.heap.size + 1 + 1 + 1, 1, .none⟩ = some (.int .u32 (P : Nat)) := by rw [cell_at hh.x]; rfl
       have x2 : wr.cell? ⟨w.heap.size + 1 + 1 + 1, 2, .none⟩ = some (.int .u32 (T : Nat)) := by rw [cell_at hh.x]; rfl
       have x3 : wr.cell? ⟨w.heap.size + 1 + 1 + 1, 3, .none⟩ = some (.bool false) := by rw [cell_at hh.x]; rfl
       have x4 : wr.cell? ⟨w.heap.size + 1 + 1 + 1, 4, .none⟩ = some (.bool uB) := by rw [cell_at hh.x]; rfl
       have z0 : wr.cell? ⟨w.heap.size + 1, 0, .none⟩ = some (.int .u32 0) := by rw [cell_at hh.z]; rfl
       have z1 : wr.cell? ⟨w.heap.size + 1, 1, .none⟩ = some (.int .u32 0) := by rw [cell_at hh.z]; rfl
       have z2 : wr.cell? ⟨w.heap.size + 1, 2, .none⟩ = some (.int .u32 0) := by rw [cell_at hh.z]; rfl
       have z3 : wr.cell? ⟨w.heap.size + 1, 3, .none⟩ = some (.bool false) := by rw [cell_at hh.z]; rfl
       have z4 : wr.cell? ⟨w.heap.size + 1, 4, .none⟩ = some (.bool false) := by rw [cell_at hh.z]; rfl
       have CS := cell_sets hh.z (.int .u32 (two / 4096 * 4096 : Nat)) (.int .u32 (P : Nat)) (.int .u32 (T : Nat)) (.bool false) (.bool uB)
       have zf : ∀ j, wr.frozen? ⟨w.heap.size + 1, j, .none⟩ = false := fun j => free_at hh.z
       have zl := heap_lt hh.z
       have xl := heap_lt hh.x
       have hn : ¬ S' (w.heap.size + 1) := fun h => (nn _ h).2.2.2 rfl
       have HFin : Ram (sets5 wr (w.heap.size + 1) (.int .u32 (two / 4096 * 4096 : Nat)) (.int .u32 (P : Nat)) (.int .u32 (T : Nat)) (.bool false) (.bool uB)) b S' _ := ((((HS.set hn _ _).set hn _ _).set hn _ _).set hn _ _).set hn _ _
       have MFin : Moves S S' w (sets5 wr (w.heap.size + 1) (.int .u32 (two / 4096 * 4096 : Nat)) (.int .u32 (P : Nat)) (.int .u32 (T : Nat)) (.bool false) (.bool uB)) := Mv.sets5 (Nat.le_succ _) _ _ _ _ _ _ _ _ _ _
       clear hh nn
       generalize hfr : two / 4096 * 4096 = fr at *
       have HFR := Lib.hid hfr
       have HCS := Lib.hid CS
       clear hfr CS
       go_wp2_with fail
       change bodyPost _ _ _ _ _ (sets5 wr (w.heap.size + 1) (.int .u32 (fr : Nat)) (.int .u32 (P : Nat)) (.int .u32 (T : Nat)) (.bool false) (.bool uB))
       obtain ⟨y0, y1, y2, y3, y4⟩ := HCS.out
       clear HCS x0 x1 x2 x3 x4 z0 z1 z2 z3 z4 zf zl xl
       generalize sets5 wr (w.heap.size + 1) (.int .u32 (fr : Nat)) (.int .u32 (P : Nat)) (.int .u32 (T : Nat)) (.bool false) (.bool uB) = Wf at *
       refine bodyPost_ret (v := .tuple #[.agg #[.int .u32 (fr : Nat), .int .u32 (P : Nat), .int .u32 (T : Nat), .bool false, .bool uB], .int .i64 (-1), .int .i64 0]) (by simp [results, Tryz.results202, go_sem, y0, y1, y2, y3, y4]) rfl ?_
       rw [← HFR.out]
       exact find_good' HP.out HT.out H1.out HONE.out H2.out HTWO.out HWB.out HUB.out rfl HFin MFin
    ·
     go_wp2_with fail
     go_returns
     exact find_bad H H1.out (by rw [HP.out]; exact HONE.out) H2.out (by rw [HT.out]; exact HTWO.out) HWB.out HUB.out rfl (by repeat' (first | (with_reducible exact Below.refl _ _) | (with_reducible refine Below.setCell ?_ (by first | (simp; done) | (simp; omega)) _) | (with_reducible refine below_dn ?_ _) | (with_reducible refine Below.alloc ?_ (by first | (simp; done) | (simp; omega)) _)))
   ·
    go_wp2_with fail
    clear e5
    go_loopw [112] (fun i wr => ∃ k : Nat, k ≤ 2 ∧ i = .int .i64 k ∧ FRel w wr b S (w.heap.size + 1 + 1) (w.heap.size + 1 + 1 + 1 + 1) (w.heap.size + 1 + 1 + 1) (w.heap.size + 1) P T 96 ⟨two / 4096 * 4096, P, T, true, uB⟩ (marks R P T 96 k)) (fun i _ => 2 - (intOf i).toNat)
    case atStart =>
     refine ⟨0, by omega, rfl, ⟨S, by rw [marks_zero]; exact H.below (by repeat' (first | (with_reducible exact Below.refl _ _) | (with_reducible refine Below.setCell ?_ (by first | (simp; done) | (simp; omega)) _) | (with_reducible refine below_dn ?_ _) | (with_reducible refine Below.alloc ?_ (by first | (simp; done) | (simp; omega)) _))), Moves.ofBelow (by repeat' (first | (with_reducible exact Below.refl _ _) | (with_reducible refine Below.setCell ?_ (by first | (simp; done) | (simp; omega)) _) | (with_reducible refine below_dn ?_ _) | (with_reducible refine Below.alloc ?_ (by first | (simp; done) | (simp; omega)) _))), fun i hi => by have := H.lt hi; omega⟩, ?_, ?_, ?_, ?_⟩
     all_goals
      clear f1 f2 f3 o1 o2 o3 o4 o5 g1 g3 g4 g5 g6 e4 q2 q4 eP eT H1 H2 HONE HTWO HWB HUB
      simp only [heap_drewN', setCell_heap, alloc_heap', Array.getElem?_modify, Array.getElem?_push, Array.size_push, Array.size_modify]
      repeat (first | rw [if_neg (by omega)] | rw [if_pos (by omega)])
      simp [putObj]
    case round =>
     obtain ⟨k, hk, rfl, ⟨S', HS, Mv, nn⟩, hh⟩ := hrel
     have c0 : wr.cell? ⟨w.heap.size + 1 + 1, 0, .none⟩ = some (.int .u32 (P : Nat)) := by rw [cell_at hh.a]; rfl
     have c1 : wr.cell? ⟨w.heap.size + 1 + 1, 1, .none⟩ = some (.int .u32 (T : Nat)) := by rw [cell_at hh.a]; rfl
     have c2 : wr.cell? ⟨w.heap.size + 1 + 1 + 1 + 1, 0, .none⟩ = some (.int .u32 32) := by rw [cell_at hh.m]; rfl
     have c3 : wr.cell? ⟨w.heap.size + 1 + 1 + 1 + 1, 1, .none⟩ = some (.int .u32 96) := by rw [cell_at hh.m]; rfl
     clear f1 f2 f3 o1 o2 o3 o4 o5 g1 g3 g4 g5 g6 e4 q2 q4 eP eT
     by_cases hk2 : k < 2
     ·obtain ⟨a, m, Rk, ca, cm, ha, hm, er, en⟩ : ∃ (a m : Nat) (Rk : RS), wr.cell? ⟨w.heap.size + 1 + 1, k, .none⟩ = some (.int .u32 (a : Nat)) ∧ wr.cell? ⟨w.heap.size + 1 + 1 + 1 + 1, k, .none⟩ = some (.int .u32 (m : Nat)) ∧ a < 4294967296 ∧ m < 4294967296 ∧
          marks R P T 96 k = Rk ∧ marks R P T 96 (k + 1) = Rk.mark a m := by
        rcases (show k = 0 ∨ k = 1 by omega) with rfl | rfl
        ·exact ⟨P, 32, R, c0, c2, hP, by decide, marks_zero _ _ _ _, marks_one _ _ _ _⟩
        ·exact ⟨T, 96, R.mark P 32, c1, c3, hT, by decide, marks_one _ _ _ _, marks_two _ _ _ _⟩
      rw [er] at HS
      have EN := Lib.hid en
      clear c0 c1 c2 c3 er en
      have q1 : (0 : Int) ≤ (k : Int) := by omega
      have q2 : (k : Int) < 2 := by omega
      go_wp2_with fail
      refine (read_4 HS a ha).mono ?_
      rintro e w3 ⟨rfl, n3, rfl⟩
      have n32 : Rk.read a 4 < 4294967296 := RS.read_lt HS.isok _ 4
      have hor : bits .or .u32 ((Rk.read a 4 : Nat) : Int) (m : Int) = (((Rk.read a 4) ||| m : Nat) : Int) := u32_or_nat _ m n32 hm
      have om32 : (Rk.read a 4) ||| m < 4294967296 := Nat.or_lt_two_pow (n := 32) n32 hm
      have HMS := Lib.hid (mark_same Rk a m)
      have HMN := Lib.hid (mark_new Rk a m)
      have HS2 := HS.drewN n3
      have Mv2 := Mv.trans (Moves.drewN S' _ n3)
      by_cases hsame : (Rk.read a 4) ||| m = Rk.read a 4
      ·have FR : FRel w (wr.drewN n3) b S (w.heap.size + 1 + 1) (w.heap.size + 1 + 1 + 1 + 1) (w.heap.size + 1 + 1 + 1) (w.heap.size + 1) P T 96 ⟨two / 4096 * 4096, P, T, true, uB⟩ (marks R P T 96 (k + 1)) := by
         rw [EN.out, HMS.out hsame]
         exact ⟨⟨S', HS2, Mv2, nn⟩, ⟨hh.a, hh.m, hh.x, hh.z⟩⟩
       rw [hsame] at hor
       clear hsame HS2 Mv2 hh HS Mv om32
       generalize Rk.read a 4 = n at *
       go_wp2_with fail
       go_roundw
       case rel => exact ⟨k + 1, by omega, by go_num, FR⟩
       case measure => (simp [intOf]) <;> omega
      ·have HR := Lib.hid (HMN.out hsame)
       have hne : ((((Rk.read a 4) ||| m : Nat) : Int) != ((Rk.read a 4 : Nat) : Int)) = true := by rw [bne_iff_ne]; omega
       clear hsame HMS HMN
       generalize Rk.read a 4 = n at *
       generalize n ||| m = om at *
       have ca3 : (wr.drewN n3).cell? ⟨w.heap.size + 1 + 1, k, .none⟩ = some (.int .u32 (a : Nat)) := ca
       have cm3 : (wr.drewN n3).cell? ⟨w.heap.size + 1 + 1 + 1 + 1, k, .none⟩ = some (.int .u32 (m : Nat)) := cm
       have hh3 := hh.quiet n3
       clear ca cm hh
       generalize wr.drewN n3 = W3 at *
       go_upto_region 30 with (fail)
       go_still_tail 9, (by kernel_rfl)
       change wpList _ _ _ _ _ (W3.drewN 1)
       go_wp2_with fail
       refine (write_4 (HS2.drewN 1) a om ha om32).mono ?_
       rintro e w4 ⟨rfl, S4, H4, M4⟩
       have FR : FRel w w4 b S (w.heap.size + 1 + 1) (w.heap.size + 1 + 1 + 1 + 1) (w.heap.size + 1 + 1 + 1) (w.heap.size + 1) P T 96 ⟨two / 4096 * 4096, P, T, true, uB⟩ (marks R P T 96 (k + 1)) := by
        rw [EN.out, HR.out]
        exact FRel.wrote (wr := W3.drewN 1) ⟨hh3.a, hh3.m, hh3.x, hh3.z⟩ (Mv2.trans (Moves.drewN S' _ 1)) nn H4 M4
       clear hor HR HS2 Mv2 hh3 HS Mv H4 M4 hne om32 n32 ca3 cm3
       go_wp2_with fail
       go_roundw
       case rel => exact ⟨k + 1, by omega, by go_num, FR⟩
       case measure => (simp [intOf]) <;> omega
     ·have hk3 : k = 2 := by omega
      rw [hk3] at HS
      clear hk3
      clear c0 c1 c2 c3
      have x0 : wr.cell? ⟨w.heap.size + 1 + 1 + 1, 0, .none⟩ = some (.int .u32 (two / 4096 * 4096 : Nat)) := by rw [cell_at hh.x]; rfl
      have x1 : wr.cell? ⟨w.heap.size + 1 + 1 + 1, 1, .none⟩ = some (.int .u32 (P : Nat)) := by rw [cell_at hh.x]; rfl
      have x2 : wr.cell? ⟨w.heap.size + 1 + 1 + 1, 2, .none⟩ = some (.int .u32 (T : Nat)) := by rw [cell_at hh.x]; rfl
      have x3 : wr.cell? ⟨w.heap.size + 1 + 1 + 1, 3, .none⟩ = some (.bool true) := by rw [cell_at hh.x]; rfl
      have x4 : wr.cell? ⟨w.heap.size + 1 + 1 + 1, 4, .none⟩ = some (.bool uB) := by rw [cell_at hh.x]; rfl
      have z0 : wr.cell? ⟨w.heap.size + 1, 0, .none⟩ = some (.int .u32 0) := by rw [cell_at hh.z]; rfl
      have z1 : wr.cell? ⟨w.heap.size + 1, 1, .none⟩ = some (.int .u32 0) := by rw [cell_at hh.z]; rfl
      have z2 : wr.cell? ⟨w.heap.size + 1, 2, .none⟩ = some (.int .u32 0) := by rw [cell_at hh.z]; rfl
      have z3 : wr.cell? ⟨w.heap.size + 1, 3, .none⟩ = some (.bool false) := by rw [cell_at hh.z]; rfl
      have z4 : wr.cell? ⟨w.heap.size + 1, 4, .none⟩ = some (.bool false) := by rw [cell_at hh.z]; rfl
      have CS := cell_sets hh.z (.int .u32 (two / 4096 * 4096 : Nat)) (.int .u32 (P : Nat)) (.int .u32 (T : Nat)) (.bool true) (.bool uB)
      have zf : ∀ j, wr.frozen? ⟨w.heap.size + 1, j, .none⟩ = false := fun j => free_at hh.z
      have zl := heap_lt hh.z
      have xl := heap_lt hh.x
      have hn : ¬ S' (w.heap.size + 1) := fun h => (nn _ h).2.2.2 rfl
      have HFin : Ram (sets5 wr (w.heap.size + 1) (.int .u32 (two / 4096 * 4096 : Nat)) (.int .u32 (P : Nat)) (.int .u32 (T : Nat)) (.bool true) (.bool uB)) b S' _ := ((((HS.set hn _ _).set hn _ _).set hn _ _).set hn _ _).set hn _ _
      have MFin : Moves S S' w (sets5 wr (w.heap.size + 1) (.int .u32 (two / 4096 * 4096 : Nat)) (.int .u32 (P : Nat)) (.int .u32 (T : Nat)) (.bool true) (.bool uB)) := Mv.sets5 (Nat.le_succ _) _ _ _ _ _ _ _ _ _ _
      clear hh nn
      generalize hfr : two / 4096 * 4096 = fr at *
      have HFR := Lib.hid hfr
      have HCS := Lib.hid CS
      clear hfr CS
      go_wp2_with fail
      change bodyPost _ _ _ _ _ (sets5 wr (w.heap.size + 1) (.int .u32 (fr : Nat)) (.int .u32 (P : Nat)) (.int .u32 (T : Nat)) (.bool true) (.bool uB))
      obtain ⟨y0, y1, y2, y3, y4⟩ := HCS.out
      clear HCS x0 x1 x2 x3 x4 z0 z1 z2 z3 z4 zf zl xl
      generalize sets5 wr (w.heap.size + 1) (.int .u32 (fr : Nat)) (.int .u32 (P : Nat)) (.int .u32 (T : Nat)) (.bool true) (.bool uB) = Wf at *
      refine bodyPost_ret (v := .tuple #[.agg #[.int .u32 (fr : Nat), .int .u32 (P : Nat), .int .u32 (T : Nat), .bool true, .bool uB], .int .i64 (-1), .int .i64 0]) (by simp [results, Tryz.results202, go_sem, y0, y1, y2, y3, y4]) rfl ?_
      rw [← HFR.out]
      exact find_good' HP.out HT.out H1.out HONE.out H2.out HTWO.out HWB.out HUB.out rfl HFin MFin
end Go.Proofs.YtmpcafdgkbpneaaGreat

