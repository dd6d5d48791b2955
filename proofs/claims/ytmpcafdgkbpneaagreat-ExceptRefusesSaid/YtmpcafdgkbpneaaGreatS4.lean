/- Steps of a proof: FindTT, FindZ, RefA, RefB, together. -/
import Derived.Test.YtmpcafdgkbpneaaGreatS2
import Derived.Test.YtmpcafdgkbpneaaGreatS3
/- page.Find, for one kind of access. -/
set_option maxHeartbeats 8000000
set_option maxRecDepth 20000
namespace Go.Proofs.YtmpcafdgkbpneaaGreat
open Go.RowKit Go.MapKept
set_option linter.unusedVariables false

set_option maxRecDepth 100000 in
theorem find_tt {w : World} {b : Nat} {S : Nat → Prop} {R : RS} (H : Ram w b S R) (cr3 lin : Nat) (hc : cr3 < 4294967296) (hl : lin < 4294967296) (wp : Bool) :
    Calls Tryz.prog 202 #[.pointer (some ⟨b, 0, .none⟩), .int .u32 cr3, .int .u32 lin, .agg #[.bool true, .bool true, .bool wp]] w (FindEnd w b S (find R cr3 lin true true wp)) := by
 have f1 := a4095 cr3 hc
 have f2 := s22 lin hl
 have f3 := s12 lin hl
 have o1 : bits .or .i64 0 2 = 2 := by decide
 have o2 : bits .or .i64 2 4 = 6 := by decide
 have o3 : bits .or .i64 0 4 = 4 := by decide
 have o4 : bits .or .i64 6 1 = 7 := by decide
 have o5 : bits .or .u32 32 64 = 96 := by decide
 have hP := pde_lt cr3 lin hc hl
 have eP : (cr3 : Int) / 4096 * 4096 + (lin : Int) / 4194304 * 4 = (pdeOf cr3 lin : Nat) := by unfold pdeOf; omega
 generalize hPe : pdeOf cr3 lin = P at *
 have HP := Lib.hid hPe
 clear hPe
 go_enter Tryz.func202, Tryz.ntmps202
 go_wp2_with fail
 refine wp_loop_rounds 3 ?_
 rw [rounds_succ]
 go_wp2_with fail
 refine (read_4 (((H.alloc _).alloc _).alloc _) P hP).mono ?_
 rintro e w1 ⟨rfl, n1, rfl⟩
 have one32 : R.read P 4 < 4294967296 := RS.read_lt H.isok _ 4
 generalize hone : R.read P 4 = one at *
 have HONE := Lib.hid hone
 clear hone
 have g1 := and_all one one32
 have g2 := and_1 one one32
 by_cases h1 : one % 2 = 0
 ·have g3 : ((one : Int) % 2 == 0) = true := by rw [beq_iff_eq]; omega
  have H1 := Lib.hid h1
  clear h1
  go_wp2_with fail
  go_returns
  exact find_no H H1.out (by rw [HP.out]; exact HONE.out) (by repeat' (first | (with_reducible exact Below.refl _ _) | (with_reducible refine Below.setCell ?_ (by first | (simp; done) | (simp; omega)) _) | (with_reducible refine below_dn ?_ _) | (with_reducible refine Below.alloc ?_ (by first | (simp; done) | (simp; omega)) _)))
 ·have g3 : ((one : Int) % 2 == 0) = false := by rw [beq_eq_false_iff_ne]; omega
  have H1 := Lib.hid h1
  clear h1
  go_wp2_with fail
  rw [rounds_succ]
  have e4 := a4095 one one32
  have hT := pte_lt one lin one32
  have eT : (one : Int) / 4096 * 4096 + (lin : Int) / 4096 % 1024 * 4 = (pteOf one lin : Nat) := by unfold pteOf; omega
  generalize hTe : pteOf one lin = T at *
  have HT := Lib.hid hTe
  clear hTe
  go_wp2_with fail
  refine (read_4 (H.below (by repeat' (first | (with_reducible exact Below.refl _ _) | (with_reducible refine Below.setCell ?_ (by first | (simp; done) | (simp; omega)) _) | (with_reducible refine below_dn ?_ _) | (with_reducible refine Below.alloc ?_ (by first | (simp; done) | (simp; omega)) _)))) T hT).mono ?_
  rintro e w2 ⟨rfl, n2, rfl⟩
  have two32 : R.read T 4 < 4294967296 := RS.read_lt H.isok _ 4
  generalize htwo : R.read T 4 = two at *
  have HTWO := Lib.hid htwo
  clear htwo g1 g2 g3
  have g1 := u32_and_nat one two one32 two32
  have B32 : one &&& two < 4294967296 := Nat.lt_of_le_of_lt Nat.and_le_left one32
  have hB1 : (one &&& two) % 2 = two % 2 := both_bit one two H1.out
  obtain ⟨wB, hwB⟩ : ∃ y : Bool, y = (one / 2 % 2 == 1 && two / 2 % 2 == 1) := ⟨_, rfl⟩
  obtain ⟨uB, huB⟩ : ∃ y : Bool, y = (one / 4 % 2 == 1 && two / 4 % 2 == 1) := ⟨_, rfl⟩
  have q2 : (((one &&& two : Nat) : Int) / 2 % 2 * 2 != 0) = wB := by
   have := bit_ne ((one &&& two) / 2) 2 (by decide)
   rw [hwB, ← and_bit one two 1, show (2 : Nat) ^ 1 = 2 from rfl, ← this]; simp
  have q4 : (((one &&& two : Nat) : Int) / 4 % 2 * 4 != 0) = uB := by
   have := bit_ne ((one &&& two) / 4) 4 (by decide)
   rw [huB, ← and_bit one two 2, show (2 : Nat) ^ 2 = 4 from rfl, ← this]; simp
  have HWB := Lib.hid hwB
  have HUB := Lib.hid huB
  clear hwB huB
  generalize one &&& two = B at *
  have g4 := and_1 B B32
  have g5 := and_2 B B32
  have g6 := and_4 B B32
  by_cases h2 : two % 2 = 0
  ·have g3 : ((B : Int) % 2 == 0) = true := by rw [beq_iff_eq]; omega
   have H2 := Lib.hid h2
   clear h2 hB1
   go_wp2_with fail
   go_returns
   exact find_no2 H H1.out (by rw [HP.out]; exact HONE.out) H2.out (by rw [HT.out]; exact HTWO.out) (by repeat' (first | (with_reducible exact Below.refl _ _) | (with_reducible refine Below.setCell ?_ (by first | (simp; done) | (simp; omega)) _) | (with_reducible refine below_dn ?_ _) | (with_reducible refine Below.alloc ?_ (by first | (simp; done) | (simp; omega)) _)))
  ·have g3 : ((B : Int) % 2 == 0) = false := by rw [beq_eq_false_iff_ne]; omega
   have H2 := Lib.hid h2
   clear h2 hB1
   have e5 := a4095 two two32
   go_wp2_with fail
   rw [rounds_succ]
   cases uB
   ·
    go_wp2_with fail
    go_returns
    exact find_bad H H1.out (by rw [HP.out]; exact HONE.out) H2.out (by rw [HT.out]; exact HTWO.out) HWB.out HUB.out rfl (by repeat' (first | (with_reducible exact Below.refl _ _) | (with_reducible refine Below.setCell ?_ (by first | (simp; done) | (simp; omega)) _) | (with_reducible refine below_dn ?_ _) | (with_reducible refine Below.alloc ?_ (by first | (simp; done) | (simp; omega)) _)))
   ·
    cases wB
    ·
     go_wp2_with fail
     go_returns
     exact find_bad H H1.out (by rw [HP.out]; exact HONE.out) H2.out (by rw [HT.out]; exact HTWO.out) HWB.out HUB.out rfl (by repeat' (first | (with_reducible exact Below.refl _ _) | (with_reducible refine Below.setCell ?_ (by first | (simp; done) | (simp; omega)) _) | (with_reducible refine below_dn ?_ _) | (with_reducible refine Below.alloc ?_ (by first | (simp; done) | (simp; omega)) _)))
    ·
     go_wp2_with fail
     clear e5
     go_loopw [112] (fun i wr => ∃ k : Nat, k ≤ 2 ∧ i = .int .i64 k ∧ FRel w wr b S (w.heap.size + 1 + 1) (w.heap.size + 1 + 1 + 1 + 1) (w.heap.size + 1 + 1 + 1) (w.heap.size + 1) P T 96 ⟨two / 4096 * 4096, P, T, true, true⟩ (marks R P T 96 k)) (fun i _ => 2 - (intOf i).toNat)
     case atStart =>
      refine ⟨0, by omega, rfl, ⟨S, by rw [marks_zero]; exact H.below (by repeat' (first | (with_reducible exact Below.refl _ _) | (with_reducible refine Below.setCell ?_ (by first | (simp; done) | (simp; omega)) _) | (with_reducible refine below_dn ?_ _) | (with_reducible refine Below.alloc ?_ (by first | (simp; done) | (simp; omega)) _))), Moves.ofBelow (by repeat' (first | (with_reducible exact Below.refl _ _) | (with_reducible refine Below.setCell ?_ (by first | (simp; done) | (simp; omega)) _) | (with_reducible refine below_dn ?_ _) | (with_reducible refine Below.alloc ?_ (by first | (simp; done) | (simp; omega)) _))), fun i hi => by have := H.lt hi; omega⟩, ?_, ?_, ?_, ?_⟩
      all_goals
       clear f1 f2 f3 o1 o2 o3 o4 o5 g1 g3 g4 g5 g6 e4 q2 q4 eP eT H1 H2 HONE HTWO HWB HUB
       simp only [heap_drewN', setCell_heap, alloc_heap', Array.getElem?_modify, Array.getElem?_push, Array.size_push, Array.size_modify]
       repeat (first | rw [if_neg (by omega)] | rw [if_pos (by omega)])
       simp [putObj]
     case round =>
      obtain ⟨k, hk, rfl, ⟨S', HS, Mv, nn⟩, hh⟩ := hrel
      have c0 : wr.cell? ⟨w.heap.size + 1 + 1, 0, .none⟩ = some (.int .u32 (P : Nat)) := by rw [cell_at hh.a]; rfl
      have c1 : wr.cell? ⟨w.heap.size + 1 + 1, 1, .none⟩ = some (.int .u32 (T : Nat)) := by rw [cell_at hh.a]; rfl
      have c2 : wr.cell? ⟨w.heap.size + 1 + 1 + 1 + 1, 0, .none⟩ = some (.int .u32 32) := by rw [cell_at hh.m]; rfl
      have c3 : wr.cell? ⟨w.heap.size + 1 + 1 + 1 + 1, 1, .none⟩ = some (.int .u32 96) := by rw [cell_at hh.m]; rfl
      clear f1 f2 f3 o1 o2 o3 o4 o5 g1 g3 g4 g5 g6 e4 q2 q4 eP eT
      by_cases hk2 : k < 2
      ·obtain ⟨a, m, Rk, ca, cm, ha, hm, er, en⟩ : ∃ (a m : Nat) (Rk : RS), wr.cell? ⟨w.heap.size + 1 + 1, k, .none⟩ = some (.int .u32 (a : Nat)) ∧ wr.cell? ⟨w.heap.size + 1 + 1 + 1 + 1, k, .none⟩ = some (.int .u32 (m : Nat)) ∧ a < 4294967296 ∧ m < 4294967296 ∧
           marks R P T 96 k = Rk ∧ marks R P T 96 (k + 1) = Rk.mark a m := by
         rcases (show k = 0 ∨ k = 1 by omega) with rfl | rfl
         ·exact ⟨P, 32, R, c0, c2, hP, by decide, marks_zero _ _ _ _, marks_one _ _ _ _⟩
         ·exact ⟨T, 96, R.mark P 32, c1, c3, hT, by decide, marks_one _ _ _ _, marks_two _ _ _ _⟩
       rw [er] at HS
       have EN := Lib.hid en
       clear c0 c1 c2 c3 er en
       have q1 : (0 : Int) ≤ (k : Int) := by omega
       have q2 : (k : Int) < 2 := by omega
       go_wp2_with fail
       refine (read_4 HS a ha).mono ?_
       rintro e w3 ⟨rfl, n3, rfl⟩
       have n32 : Rk.read a 4 < 4294967296 := RS.read_lt HS.isok _ 4
       have hor : bits .or .u32 ((Rk.read a 4 : Nat) : Int) (m : Int) = (((Rk.read a 4) ||| m : Nat) : Int) := u32_or_nat _ m n32 hm
       have om32 : (Rk.read a 4) ||| m < 4294967296 := Nat.or_lt_two_pow (n := 32) n32 hm
       have HMS := Lib.hid (mark_same Rk a m)
       have HMN := Lib.hid (mark_new Rk a m)
       have HS2 := HS.drewN n3
       have Mv2 := Mv.trans (Moves.drewN S' _ n3)
       by_cases hsame : (Rk.read a 4) ||| m = Rk.read a 4
       ·have FR : FRel w (wr.drewN n3) b S (w.heap.size + 1 + 1) (w.heap.size + 1 + 1 + 1 + 1) (w.heap.size + 1 + 1 + 1) (w.heap.size + 1) P T 96 ⟨two / 4096 * 4096, P, T, true, true⟩ (marks R P T 96 (k + 1)) := by
          rw [EN.out, HMS.out hsame]
          exact ⟨⟨S', HS2, Mv2, nn⟩, ⟨hh.a, hh.m, hh.x, hh.z⟩⟩
        rw [hsame] at hor
        clear hsame HS2 Mv2 hh HS Mv om32
        generalize Rk.read a 4 = n at *
        go_wp2_with fail
        go_roundw
        case rel => exact ⟨k + 1, by omega, by go_num, FR⟩
        case measure => (simp [intOf]) <;> omega
       ·have HR := Lib.hid (HMN.out hsame)
        have hne : ((((Rk.read a 4) ||| m : Nat) : Int) != ((Rk.read a 4 : Nat) : Int)) = true := by rw [bne_iff_ne]; omega
        clear hsame HMS HMN
        generalize Rk.read a 4 = n at *
        generalize n ||| m = om at *
        have ca3 : (wr.drewN n3).cell? ⟨w.heap.size + 1 + 1, k, .none⟩ = some (.int .u32 (a : Nat)) := ca
        have cm3 : (wr.drewN n3).cell? ⟨w.heap.size + 1 + 1 + 1 + 1, k, .none⟩ = some (.int .u32 (m : Nat)) := cm
        have hh3 := hh.quiet n3
        clear ca cm hh
        generalize wr.drewN n3 = W3 at *
        go_upto_region 30 with (fail)
        go_still_tail 9, (by kernel_rfl)
        change wpList _ _ _ _ _ (W3.drewN 1)
        go_wp2_with fail
        refine (write_4 (HS2.drewN 1) a om ha om32).mono ?_
        rintro e w4 ⟨rfl, S4, H4, M4⟩
        have FR : FRel w w4 b S (w.heap.size + 1 + 1) (w.heap.size + 1 + 1 + 1 + 1) (w.heap.size + 1 + 1 + 1) (w.heap.size + 1) P T 96 ⟨two / 4096 * 4096, P, T, true, true⟩ (marks R P T 96 (k + 1)) := by
         rw [EN.out, HR.out]
         exact FRel.wrote (wr := W3.drewN 1) ⟨hh3.a, hh3.m, hh3.x, hh3.z⟩ (Mv2.trans (Moves.drewN S' _ 1)) nn H4 M4
        clear hor HR HS2 Mv2 hh3 HS Mv H4 M4 hne om32 n32 ca3 cm3
        go_wp2_with fail
        go_roundw
        case rel => exact ⟨k + 1, by omega, by go_num, FR⟩
        case measure => (simp [intOf]) <;> omega
      ·have hk3 : k = 2 := by omega
       rw [hk3] at HS
       clear hk3
       clear c0 c1 c2 c3
       have x0 : wr.cell? ⟨w.heap.size + 1 + 1 + 1, 0, .none⟩ = some (.int .u32 (two / 4096 * 4096 : Nat)) := by rw [cell_at hh.x]; rfl
       have x1 : wr.cell? ⟨w.heap.size + 1 + 1 + 1, 1, .none⟩ = some (.int .u32 (P : Nat)) := by rw [cell_at hh.x]; rfl
       have x2 : wr.cell? ⟨w.heap.size + 1 + 1 + 1, 2, .none⟩ = some (.int .u32 (T : Nat)) := by rw [cell_at hh.x]; rfl
       have x3 : wr.cell? ⟨w.heap.size + 1 + 1 + 1, 3, .none⟩ = some (.bool true) := by rw [cell_at hh.x]; rfl
       have x4 : wr.cell? ⟨w.heap.size + 1 + 1 + 1, 4, .none⟩ = some (.bool true) := by rw [cell_at hh.x]; rfl
       have z0 : wr.cell? ⟨w.heap.size + 1, 0, .none⟩ = some (.int .u32 0) := by rw [cell_at hh.z]; rfl
       have z1 : wr.cell? ⟨w.heap.size + 1, 1, .none⟩ = some (.int .u32 0) := by rw [cell_at hh.z]; rfl
       have z2 : wr.cell? ⟨w.heap.size + 1, 2, .none⟩ = some (.int .u32 0) := by rw [cell_at hh.z]; rfl
       have z3 : wr.cell? ⟨w.heap.size + 1, 3, .none⟩ = some (.bool false) := by rw [cell_at hh.z]; rfl
       have z4 : wr.cell? ⟨w.heap.size + 1, 4, .none⟩ = some (.bool false) := by rw [cell_at hh.z]; rfl
       have CS := cell_sets hh.z (.int .u32 (two / 4096 * 4096 : Nat)) (.int .u32 (P : Nat)) (.int .u32 (T : Nat)) (.bool true) (.bool true)
       have zf : ∀ j, wr.frozen? ⟨w.heap.size + 1, j, .none⟩ = false := fun j => free_at hh.z
       have zl := heap_lt hh.z
       have xl := heap_lt hh.x
       have hn : ¬ S' (w.heap.size + 1) := fun h => (nn _ h).2.2.2 rfl
       have HFin : Ram (sets5 wr (w.heap.size + 1) (.int .u32 (two / 4096 * 4096 : Nat)) (.int .u32 (P : Nat)) (.int .u32 (T : Nat)) (.bool true) (.bool true)) b S' _ := ((((HS.set hn _ _).set hn _ _).set hn _ _).set hn _ _).set hn _ _
       have MFin : Moves S S' w (sets5 wr (w.heap.size + 1) (.int .u32 (two / 4096 * 4096 : Nat)) (.int .u32 (P : Nat)) (.int .u32 (T : Nat)) (.bool true) (.bool true)) := Mv.sets5 (Nat.le_succ _) _ _ _ _ _ _ _ _ _ _
       clear hh nn
       generalize hfr : two / 4096 * 4096 = fr at *
       have HFR := Lib.hid hfr
       have HCS := Lib.hid CS
       clear hfr CS
       go_wp2_with fail
       change bodyPost _ _ _ _ _ (sets5 wr (w.heap.size + 1) (.int .u32 (fr : Nat)) (.int .u32 (P : Nat)) (.int .u32 (T : Nat)) (.bool true) (.bool true))
       obtain ⟨y0, y1, y2, y3, y4⟩ := HCS.out
       clear HCS x0 x1 x2 x3 x4 z0 z1 z2 z3 z4 zf zl xl
       generalize sets5 wr (w.heap.size + 1) (.int .u32 (fr : Nat)) (.int .u32 (P : Nat)) (.int .u32 (T : Nat)) (.bool true) (.bool true) = Wf at *
       refine bodyPost_ret (v := .tuple #[.agg #[.int .u32 (fr : Nat), .int .u32 (P : Nat), .int .u32 (T : Nat), .bool true, .bool true], .int .i64 (-1), .int .i64 0]) (by simp [results, Tryz.results202, go_sem, y0, y1, y2, y3, y4]) rfl ?_
       rw [← HFR.out]
       exact find_good' HP.out HT.out H1.out HONE.out H2.out HTWO.out HWB.out HUB.out rfl HFin MFin
end Go.Proofs.YtmpcafdgkbpneaaGreat

/- page.Find. -/
namespace Go.Proofs.YtmpcafdgkbpneaaGreat
open Go.RowKit Go.MapKept
set_option linter.unusedVariables false

theorem find_any {w : World} {b : Nat} {S : Nat → Prop} {R : RS} (H : Ram w b S R) (cr3 lin : Nat) (hc : cr3 < 4294967296) (hl : lin < 4294967296) (wr us wp : Bool) :
    Calls Tryz.prog 202 #[.pointer (some ⟨b, 0, .none⟩), .int .u32 cr3, .int .u32 lin, .agg #[.bool wr, .bool us, .bool wp]] w (FindEnd w b S (find R cr3 lin wr us wp)) := by
 cases wr <;> cases us
 ·exact find_ff H cr3 lin hc hl wp
 ·exact find_ft H cr3 lin hc hl wp
 ·exact find_tf H cr3 lin hc hl wp
 ·exact find_tt H cr3 lin hc hl wp
end Go.Proofs.YtmpcafdgkbpneaaGreat

/- the document's memory: what it is in memory; Place, Byte. -/
namespace Go.Proofs.YtmpcafdgkbpneaaGreat
open Go.RowKit Go.MapKept
set_option linter.unusedVariables false

def byteCells (n : Nat) (f : Nat → Nat) : Array Value := Array.ofFn (n := n) fun i => .int .u8 (f i.val : Nat)
def boolCells (n : Nat) (f : Nat → Bool) : Array Value := Array.ofFn (n := n) fun i => .bool (f i.val)
theorem byteCells_at (n : Nat) (f : Nat → Nat) (i : Nat) (h : i < n) : (byteCells n f)[i]? = some (.int .u8 (f i : Nat)) := by unfold byteCells; rw [Array.getElem?_ofFn, dif_pos h]
theorem boolCells_at (n : Nat) (f : Nat → Bool) (i : Nat) (h : i < n) : (boolCells n f)[i]? = some (.bool (f i)) := by unfold boolCells; rw [Array.getElem?_ofFn, dif_pos h]
theorem byteCells_set (n : Nat) (f : Nat → Nat) (i v : Nat) (h : i < n) : (byteCells n f).setIfInBounds i (.int .u8 (v : Nat)) = byteCells n (fun k => if k = i then v else f k) := by
 apply Array.ext_getElem?
 intro j
 unfold byteCells
 rw [Array.getElem?_setIfInBounds, Array.getElem?_ofFn, Array.getElem?_ofFn]
 by_cases hj : j < n
 ·rw [dif_pos hj, dif_pos hj]
  by_cases e : i = j
  ·subst e; rw [if_pos rfl, if_pos (by simpa using h)]; simp
  ·rw [if_neg e]; show _ = some (Value.int .u8 ((if j = i then v else f j : Nat) : Int)); rw [if_neg (fun x => e x.symm)]
 ·rw [dif_neg hj, dif_neg hj]
  by_cases e : i = j
  ·omega
  ·rw [if_neg e]
theorem boolCells_set (n : Nat) (f : Nat → Bool) (i : Nat) (v : Bool) (h : i < n) : (boolCells n f).setIfInBounds i (.bool v) = boolCells n (fun k => if k = i then v else f k) := by
 apply Array.ext_getElem?
 intro j
 unfold boolCells
 rw [Array.getElem?_setIfInBounds, Array.getElem?_ofFn, Array.getElem?_ofFn]
 by_cases hj : j < n
 ·rw [dif_pos hj, dif_pos hj]
  by_cases e : i = j
  ·subst e; rw [if_pos rfl, if_pos (by simpa using h)]; simp
  ·rw [if_neg e]; show _ = some (Value.bool (if j = i then v else f j)); rw [if_neg (fun x => e x.symm)]
 ·rw [dif_neg hj, dif_neg hj]
  by_cases e : i = j
  ·omega
  ·rw [if_neg e]
theorem byteCells_zero (n : Nat) : fresh n (.int .u8 0) = byteCells n (fun _ => 0) := by
 apply Array.ext_getElem?
 intro j
 unfold byteCells fresh
 rw [Array.getElem?_replicate, Array.getElem?_ofFn]
 by_cases h : j < n <;> simp [h]
theorem boolCells_no (n : Nat) : fresh n (.bool false) = boolCells n (fun _ => false) := by
 apply Array.ext_getElem?
 intro j
 unfold boolCells fresh
 rw [Array.getElem?_replicate, Array.getElem?_ofFn]
 by_cases h : j < n <;> simp [h]

structure RefIn (w : World) (b g0 g1 g2 g3 : Nat) (R : RS) : Prop where
 obj : w.heap[b]? = some (.cells #[.slice (some ⟨g0, 0, none⟩) R.size R.size, .slice (some ⟨g1, 0, none⟩) R.pages R.pages, .slice (some ⟨g2, 0, none⟩) (R.pages * 64) (R.pages * 64), .slice (some ⟨g3, 0, none⟩) (R.pages * 64) (R.pages * 64), .bool R.closed] 173)
 r0 : w.heap[g0]? = some (.cells (byteCells R.size R.byte) 5)
 r1 : w.heap[g1]? = some (.cells (boolCells R.pages R.only) 4)
 r2 : w.heap[g2]? = some (.cells (boolCells (R.pages * 64) R.watched) 4)
 r3 : w.heap[g3]? = some (.cells (boolCells (R.pages * 64) (fun i => R.noted (i * 64))) 4)
 d1 : g1 ≠ g2
 d2 : g1 ≠ g3
 d3 : g2 ≠ g3
 ok : R.ok
def RefOwned (b g0 g1 g2 g3 k : Nat) : Prop := k = b ∨ k = g0 ∨ k = g1 ∨ k = g2 ∨ k = g3
def Ref (w : World) (b : Nat) (S : Nat → Prop) (R : RS) : Prop := ∃ g0 g1 g2 g3, RefIn w b g0 g1 g2 g3 R ∧ ∀ k, S k ↔ RefOwned b g0 g1 g2 g3 k

section
variable {w w' : World} {b g0 g1 g2 g3 : Nat} {R : RS}
theorem RefIn.e0 (H : RefIn w b g0 g1 g2 g3 R) : b ≠ g0 := by
 rintro rfl; have h := H.r0; rw [H.obj] at h; simp at h
theorem RefIn.e1 (H : RefIn w b g0 g1 g2 g3 R) : b ≠ g1 := by
 rintro rfl; have h := H.r1; rw [H.obj] at h; simp at h
theorem RefIn.e2 (H : RefIn w b g0 g1 g2 g3 R) : b ≠ g2 := by
 rintro rfl; have h := H.r2; rw [H.obj] at h; simp at h
theorem RefIn.e3 (H : RefIn w b g0 g1 g2 g3 R) : b ≠ g3 := by
 rintro rfl; have h := H.r3; rw [H.obj] at h; simp at h
theorem RefIn.f1 (H : RefIn w b g0 g1 g2 g3 R) : g0 ≠ g1 := by
 rintro rfl; have h := H.r1; rw [H.r0] at h; simp at h
theorem RefIn.f2 (H : RefIn w b g0 g1 g2 g3 R) : g0 ≠ g2 := by
 rintro rfl; have h := H.r2; rw [H.r0] at h; simp at h
theorem RefIn.f3 (H : RefIn w b g0 g1 g2 g3 R) : g0 ≠ g3 := by
 rintro rfl; have h := H.r3; rw [H.r0] at h; simp at h
theorem RefOwned.lt (H : RefIn w b g0 g1 g2 g3 R) {k : Nat} (h : RefOwned b g0 g1 g2 g3 k) : k < w.heap.size := by
 rcases h with rfl | rfl | rfl | rfl | rfl
 ·exact heap_lt H.obj
 ·exact heap_lt H.r0
 ·exact heap_lt H.r1
 ·exact heap_lt H.r2
 ·exact heap_lt H.r3
theorem RefIn.of_heap (H : RefIn w b g0 g1 g2 g3 R) (h : ∀ k, RefOwned b g0 g1 g2 g3 k → w'.heap[k]? = w.heap[k]?) : RefIn w' b g0 g1 g2 g3 R :=
 {H with
  obj := by rw [h b (.inl rfl)]; exact H.obj
  r0 := by rw [h g0 (.inr (.inl rfl))]; exact H.r0
  r1 := by rw [h g1 (.inr (.inr (.inl rfl)))]; exact H.r1
  r2 := by rw [h g2 (.inr (.inr (.inr (.inl rfl))))]; exact H.r2
  r3 := by rw [h g3 (.inr (.inr (.inr (.inr rfl))))]; exact H.r3 }
theorem RefIn.drewN (H : RefIn w b g0 g1 g2 g3 R) (n : Nat) : RefIn (w.drewN n) b g0 g1 g2 g3 R := H.of_heap fun _ _ => rfl
theorem RefIn.facts (H : RefIn w b g0 g1 g2 g3 R) :
    w.cell? ⟨b, 0, none⟩ = some (.slice (some ⟨g0, 0, none⟩) R.size R.size) ∧ w.cell? ⟨b, 1, none⟩ = some (.slice (some ⟨g1, 0, none⟩) R.pages R.pages) ∧ w.cell? ⟨b, 2, none⟩ = some (.slice (some ⟨g2, 0, none⟩) (R.pages * 64) (R.pages * 64)) ∧
    w.cell? ⟨b, 3, none⟩ = some (.slice (some ⟨g3, 0, none⟩) (R.pages * 64) (R.pages * 64)) ∧ w.cell? ⟨b, 4, none⟩ = some (.bool R.closed) := by
 have h := H.obj
 refine ⟨?_, ?_, ?_, ?_, ?_⟩ <;> (rw [cell_at h]; rfl)
end
section
variable {w w' : World} {b : Nat} {S : Nat → Prop} {R : RS}
theorem Ref.lt (H : Ref w b S R) {k : Nat} (h : S k) : k < w.heap.size := by
 obtain ⟨g0, g1, g2, g3, I, hS⟩ := H
 exact RefOwned.lt I ((hS k).1 h)
theorem Ref.isok (H : Ref w b S R) : R.ok := by
 obtain ⟨g0, g1, g2, g3, I, hS⟩ := H
 exact I.ok
theorem Ref.keeps {T : Nat → Prop} (H : Ref w b S R) (hk : Keeps T w w') (hn : ∀ k, S k → ¬ T k) : Ref w' b S R := by
 obtain ⟨g0, g1, g2, g3, I, hS⟩ := H
 exact ⟨g0, g1, g2, g3, I.of_heap fun k hk' => hk.block k (hk'.lt I) (hn k ((hS k).2 hk')), hS⟩
theorem Ref.drewN (H : Ref w b S R) (n : Nat) : Ref (w.drewN n) b S R := H.keeps ((Keeps.refl (fun _ => False) _).drewN n) fun _ _ h => h
end

theorem place_bit (a : Nat) (ha : a < 4294967296) : a &&& 4293918719 = if a / 1048576 % 2 = 1 then a - 1048576 else a := by
 have e : a &&& 4293918719 = 2 ^ 21 * (a / 2 ^ 21) + a % 2 ^ 20 := by
  refine Nat.eq_of_testBit_eq fun j => ?_
  rw [Nat.testBit_and, Nat.testBit_two_pow_mul_add _ (Nat.lt_of_lt_of_le (Nat.mod_lt _ (by decide)) (by decide)), Nat.testBit_mod_two_pow, Nat.testBit_div_two_pow]
  by_cases hj : j < 32
  ·have h : ∀ j : Fin 32, (4293918719 : Nat).testBit j.val = !decide (j.val = 20) := by decide +kernel
   rw [h ⟨j, hj⟩]
   by_cases h1 : j < 21
   ·rw [if_pos h1]
    by_cases h2 : j = 20
    ·subst h2; simp
    ·rw [decide_eq_false h2, decide_eq_true (show j < 20 by omega)]; simp
   ·rw [if_neg h1, decide_eq_false (show ¬ j = 20 by omega), show j - 21 + 21 = j by omega]; simp
  ·have hz : a.testBit j = false := Nat.testBit_lt_two_pow (Nat.lt_of_lt_of_le ha (Nat.pow_le_pow_right (n := 2) (by decide) (by omega) : 2 ^ 32 ≤ 2 ^ j))
   rw [hz, if_neg (by omega), show j - 21 + 21 = j by omega, hz]; simp
 rw [e]
 split <;> omega

theorem rplace_any {w : World} {b g0 g1 g2 g3 : Nat} {R : RS} (H : RefIn w b g0 g1 g2 g3 R) (a : Nat) (ha : a < 4294967296) :
    Calls Tryz.prog 177 #[.pointer (some ⟨b, 0, .none⟩), .int .u32 a] w fun e w' => e = .returned (.tuple #[.int .i64 (R.place a : Nat), .bool (decide (R.place a < R.size))]) ∧ ∃ n, w' = w.drewN n := by
 obtain ⟨k0, -, -, -, k4⟩ := H.facts
 have hb := place_bit a ha
 have hp : R.place a = if R.closed = true ∧ a / 1048576 % 2 = 1 then a - 1048576 else a := by
  unfold RS.place
  by_cases h1 : R.closed = true
  ·rw [if_pos h1, hb]
   by_cases h2 : a / 1048576 % 2 = 1
   ·rw [if_pos h2, if_pos ⟨h1, h2⟩]
   ·rw [if_neg h2, if_neg (fun x => h2 x.2)]
  ·rw [if_neg h1, if_neg (fun x => h1 x.1)]
 have HP := Lib.hid hp
 clear hp hb
 have hsz := RS.size_le H.ok
 cases hc : R.closed
 ·rw [hc] at k4
  rw [hc] at HP
  clear hc
  go_enter Tryz.func177, Tryz.ntmps177
  go_wp2_with fail
  go_quiet (fail)
  go_wp2_with fail
  go_ret2
  refine ⟨?_, _, rfl⟩
  rw [HP.out, if_neg (by simp)]; simp
 ·rw [hc] at k4
  rw [hc] at HP
  clear hc
  by_cases h2 : a / 1048576 % 2 = 1
  ·have h3 : (((a : Int) / 1048576) % 2 == 1) = true := by rw [beq_iff_eq]; omega
   have h4 : 1048576 ≤ a := by omega
   go_enter Tryz.func177, Tryz.ntmps177
   go_wp2_with fail
   go_quiet (fail)
   go_wp2_with fail
   go_ret2
   refine ⟨?_, _, rfl⟩
   have e : R.place a = a - 1048576 := by rw [HP.out, if_pos (by simp [h2])]
   rw [e, show ((a - 1048576 : Nat) : Int) = (a : Int) - 1048576 by omega]
   have hd : decide ((a : Int) - 1048576 < (R.size : Int)) = decide (a - 1048576 < R.size) := by rw [decide_eq_decide]; omega
   rw [← hd]; rfl
  ·have h3 : (((a : Int) / 1048576) % 2 == 1) = false := by rw [beq_eq_false_iff_ne]; omega
   go_enter Tryz.func177, Tryz.ntmps177
   go_wp2_with fail
   go_quiet (fail)
   go_wp2_with fail
   go_ret2
   refine ⟨?_, _, rfl⟩
   rw [HP.out, if_neg (fun x => h2 x.2)]; simp

section
variable {w w' : World} {b g0 g1 g2 g3 : Nat} {R : RS}
theorem RefIn.set0 (H : RefIn w b g0 g1 g2 g3 R) (n v : Nat) (hn : n < R.size) (hv : v < 256) : RefIn (w.setCell ⟨g0, n, none⟩ (.int .u8 v)) b g0 g1 g2 g3 { R with byte := fun i => if i = n then v else R.byte i } :=
 {H with
  obj := by rw [heap_set_ne _ _ _ _ _ H.e0]; exact H.obj
  r0 := by
   rw [heap_set_map, H.r0]
   show some (Obj.cells _ _ _) = _
   rw [byteCells_set _ _ _ _ hn]; rfl
  r1 := by rw [heap_set_ne _ _ _ _ _ H.f1.symm]; exact H.r1
  r2 := by rw [heap_set_ne _ _ _ _ _ H.f2.symm]; exact H.r2
  r3 := by rw [heap_set_ne _ _ _ _ _ H.f3.symm]; exact H.r3
  ok := ⟨H.ok.p1, H.ok.p2, fun i => by
   show (if i = n then v else R.byte i) < 256
   split
   ·exact hv
   ·exact H.ok.b i⟩ }
theorem RefIn.set1 (H : RefIn w b g0 g1 g2 g3 R) (n : Nat) (v : Bool) (hn : n < R.pages) : RefIn (w.setCell ⟨g1, n, none⟩ (.bool v)) b g0 g1 g2 g3 { R with only := fun i => if i = n then v else R.only i } :=
 {H with
  obj := by rw [heap_set_ne _ _ _ _ _ H.e1]; exact H.obj
  r0 := by rw [heap_set_ne _ _ _ _ _ H.f1]; exact H.r0
  r1 := by
   rw [heap_set_map, H.r1]
   show some (Obj.cells _ _ _) = _
   rw [boolCells_set _ _ _ _ hn]
  r2 := by rw [heap_set_ne _ _ _ _ _ H.d1.symm]; exact H.r2
  r3 := by rw [heap_set_ne _ _ _ _ _ H.d2.symm]; exact H.r3
  ok := ⟨H.ok.p1, H.ok.p2, H.ok.b⟩ }
theorem RefIn.set2 (H : RefIn w b g0 g1 g2 g3 R) (n : Nat) (v : Bool) (hn : n < R.pages * 64) : RefIn (w.setCell ⟨g2, n, none⟩ (.bool v)) b g0 g1 g2 g3 { R with watched := fun i => if i = n then v else R.watched i } :=
 {H with
  obj := by rw [heap_set_ne _ _ _ _ _ H.e2]; exact H.obj
  r0 := by rw [heap_set_ne _ _ _ _ _ H.f2]; exact H.r0
  r1 := by rw [heap_set_ne _ _ _ _ _ H.d1]; exact H.r1
  r2 := by
   rw [heap_set_map, H.r2]
   show some (Obj.cells _ _ _) = _
   rw [boolCells_set _ _ _ _ hn]
  r3 := by rw [heap_set_ne _ _ _ _ _ H.d3.symm]; exact H.r3
  ok := ⟨H.ok.p1, H.ok.p2, H.ok.b⟩ }
theorem RefIn.set3 (H : RefIn w b g0 g1 g2 g3 R) (n : Nat) (v : Bool) (hn : n < R.pages * 64) : RefIn (w.setCell ⟨g3, n, none⟩ (.bool v)) b g0 g1 g2 g3 { R with noted := fun i => if i = n * 64 then v else R.noted i } :=
 {H with
  obj := by rw [heap_set_ne _ _ _ _ _ H.e3]; exact H.obj
  r0 := by rw [heap_set_ne _ _ _ _ _ H.f3]; exact H.r0
  r1 := by rw [heap_set_ne _ _ _ _ _ H.d2]; exact H.r1
  r2 := by rw [heap_set_ne _ _ _ _ _ H.d3]; exact H.r2
  r3 := by
   rw [heap_set_map, H.r3]
   show some (Obj.cells _ _ _) = _
   rw [boolCells_set _ _ _ _ hn]
   congr 2
   unfold boolCells
   congr 1
   funext i
   show Value.bool (if i.val = n then v else R.noted (i.val * 64)) = Value.bool (if i.val * 64 = n * 64 then v else R.noted (i.val * 64))
   by_cases e : i.val = n
   ·rw [if_pos e, if_pos (by rw [e])]
   ·rw [if_neg e, if_neg (by omega)]
  ok := ⟨H.ok.p1, H.ok.p2, H.ok.b⟩ }
end

theorem rbyte_any {w : World} {b g0 g1 g2 g3 : Nat} {R : RS} (H : RefIn w b g0 g1 g2 g3 R) (a : Nat) (ha : a < 4294967296) :
    Calls Tryz.prog 209 #[.pointer (some ⟨b, 0, .none⟩), .int .u32 a] w fun e w' => e = .returned (.int .u8 (R.get a : Nat)) ∧ ∃ n, w' = w.drewN n := by
 obtain ⟨k0, -⟩ := H.facts
 have hsz := RS.size_le H.ok
 have HP := Lib.hid (rplace_any H a ha)
 have HG := Lib.hid (show R.get a = if R.place a < R.size then R.byte (R.place a) else 255 from rfl)
 generalize R.place a = p at *
 by_cases hs : p < R.size
 ·have hd : decide (p < R.size) = true := decide_eq_true hs
  have hc : w.cell? ⟨g0, p, .none⟩ = some (.int .u8 (R.byte p : Nat)) := by rw [cell_at H.r0, byteCells_at _ _ _ hs]
  have HD := Lib.hid hd
  clear hd
  go_enter Tryz.func209, Tryz.ntmps209
  go_wp2_with fail
  refine HP.out.mono ?_
  rintro e w1 ⟨rfl, n, rfl⟩
  rw [HD.out]
  go_wp2_with fail
  go_ret
  refine ⟨?_, n, rfl⟩
  rw [HG.out, if_pos hs]; rfl
 ·have HD := Lib.hid (decide_eq_false hs)
  go_enter Tryz.func209, Tryz.ntmps209
  go_wp2_with fail
  refine HP.out.mono ?_
  rintro e w1 ⟨rfl, n, rfl⟩
  rw [HD.out]
  go_wp2_with fail
  go_ret
  refine ⟨?_, n, rfl⟩
  rw [HG.out, if_neg hs]; rfl

theorem rput_lay {w : World} {b g0 g1 g2 g3 : Nat} {R : RS} (H : RefIn w b g0 g1 g2 g3 R) (a v : Nat) (ha : a < 4294967296) (hv : v < 256) (all : Bool) (hs : R.place a < R.size) (hall : all = true ∨ R.only (R.place a / 4096) = false) :
    Calls Tryz.prog 141 #[.pointer (some ⟨b, 0, .none⟩), .int .u32 a, .int .u8 v, .bool all] w fun e w' => e = .returned (.tuple #[]) ∧ RefIn w' b g0 g1 g2 g3 (R.lay (R.place a) v) ∧ Keeps (RefOwned b g0 g1 g2 g3) w w' := by
 obtain ⟨k0, k1, k2, k3, -⟩ := H.facts
 have hsz := RS.size_le H.ok
 have hpl := R.place_le a
 have HP := Lib.hid (rplace_any H a ha)
 generalize R.place a = p at *
 have hpg : p / 4096 < R.pages := by unfold RS.size at hs; omega
 have hgr : p / 64 < R.pages * 64 := by unfold RS.size at hs; omega
 have h256 := H.ok.p2
 have HD := Lib.hid (decide_eq_true hs)
 have hc1 : w.cell? ⟨g1, p / 4096, .none⟩ = some (.bool (R.only (p / 4096))) := by rw [cell_at H.r1, boolCells_at _ _ _ hpg]
 have hc0 : w.cell? ⟨g0, p, .none⟩ = some (.int .u8 (R.byte p : Nat)) := by rw [cell_at H.r0, byteCells_at _ _ _ hs]
 have f0 : ∀ k, w.frozen? ⟨g0, k, .none⟩ = false := fun k => free_at H.r0
 have W1 := fun n => (H.drewN n).set0 p v hs hv
 have HW1 := Lib.hid W1
 clear W1
 have ho : (R.only (p / 4096) && !all) = false := by rcases hall with h | h <;> simp [h]
 have hq0 : (p : Int) < (R.size : Int) := by omega
 have hq1 : ((p : Int) / 4096) < (R.pages : Int) := by omega
 cases hall2 : R.only (p / 4096)
 all_goals
  rw [hall2] at hc1 ho
  have HA := Lib.hid hall2
  clear hall2
  go_enter Tryz.func141, Tryz.ntmps141
  go_wp2_with fail
  refine HP.out.mono ?_
  rintro e w1 ⟨rfl, n, rfl⟩
  rw [HD.out]
  go_upto_region 3 with (fail)
  have I1 := HW1.out n
  have K1 : Keeps (RefOwned b g0 g1 g2 g3) w ((w.drewN n).setCell ⟨g0, p, .none⟩ (.int .u8 v)) := ((Keeps.refl _ w).drewN n).setCell (.inl (.inr (.inl rfl))) _
  generalize (w.drewN n).setCell ⟨g0, p, .none⟩ (.int .u8 v) = W1 at *
  clear hc0 hc1 f0 k0 k1 k2 k3
  obtain ⟨-, -, k2, k3, -⟩ := I1.facts
  have hc2 : W1.cell? ⟨g2, p / 64, .none⟩ = some (.bool (R.watched (p / 64))) := by rw [cell_at I1.r2]; exact boolCells_at _ R.watched _ hgr
  have f2 : ∀ k, W1.frozen? ⟨g2, k, .none⟩ = false := fun k => free_at I1.r2
  have hq2 : ((p : Int) / 64) < ((R.pages * 64 : Nat) : Int) := by omega
  cases hw : R.watched (p / 64)
  ·rw [hw] at hc2
   have HW := Lib.hid hw
   clear hw
   go_wp2_with fail
   go_end0
   exact ⟨rfl, by rw [RS.lay_quiet _ _ _ HW.out]; exact I1, K1⟩
  ·rw [hw] at hc2
   have HW := Lib.hid hw
   clear hw
   have I2 := I1.set2 (p / 64) false hgr
   have K2 : Keeps (RefOwned b g0 g1 g2 g3) w (W1.setCell ⟨g2, p / 64, .none⟩ (.bool false)) := K1.setCell (.inl (.inr (.inr (.inr (.inl rfl))))) _
   go_upto_region 5 with (fail)
   generalize W1.setCell ⟨g2, p / 64, .none⟩ (.bool false) = W2 at *
   clear hc2 f2 k2 k3
   obtain ⟨-, -, -, k3, -⟩ := I2.facts
   have hc3 : W2.cell? ⟨g3, p / 64, .none⟩ = some (.bool (R.noted (p / 64 * 64))) := by rw [cell_at I2.r3]; exact boolCells_at _ (fun i => R.noted (i * 64)) _ hgr
   have f3 : ∀ k, W2.frozen? ⟨g3, k, .none⟩ = false := fun k => free_at I2.r3
   have I3 := I2.set3 (p / 64) true hgr
   have K3 : Keeps (RefOwned b g0 g1 g2 g3) w (W2.setCell ⟨g3, p / 64, .none⟩ (.bool true)) := K2.setCell (.inl (.inr (.inr (.inr (.inr rfl))))) _
   go_wp2_with fail
   go_end0
   exact ⟨rfl, by rw [RS.lay_loud _ _ _ HW.out]; exact I3, K3⟩

theorem rput_no {w : World} {b g0 g1 g2 g3 : Nat} {R : RS} (H : RefIn w b g0 g1 g2 g3 R) (a v : Nat) (ha : a < 4294967296) (all : Bool) (hs : ¬ R.place a < R.size ∨ (all = false ∧ R.place a < R.size ∧ R.only (R.place a / 4096) = true)) :
    Calls Tryz.prog 141 #[.pointer (some ⟨b, 0, .none⟩), .int .u32 a, .int .u8 v, .bool all] w fun e w' => e = .returned (.tuple #[]) ∧ ∃ n, w' = w.drewN n := by
 obtain ⟨k0, k1, k2, k3, -⟩ := H.facts
 have hsz := RS.size_le H.ok
 have hpl := R.place_le a
 have HP := Lib.hid (rplace_any H a ha)
 generalize R.place a = p at *
 rcases hs with hs | ⟨rfl, hs, ho⟩
 ·have HD := Lib.hid (decide_eq_false hs)
  go_enter Tryz.func141, Tryz.ntmps141
  go_wp2_with fail
  refine HP.out.mono ?_
  rintro e w1 ⟨rfl, n, rfl⟩
  rw [HD.out]
  go_wp2_with fail
  go_returns
  exact ⟨rfl, n, rfl⟩
 ·have HD := Lib.hid (decide_eq_true hs)
  have hpg : p / 4096 < R.pages := by unfold RS.size at hs; omega
  have h256 := H.ok.p2
  have hc1 : w.cell? ⟨g1, p / 4096, .none⟩ = some (.bool true) := by rw [cell_at H.r1, boolCells_at _ _ _ hpg, ho]
  have hq1 : ((p : Int) / 4096) < (R.pages : Int) := by omega
  clear ho
  go_enter Tryz.func141, Tryz.ntmps141
  go_wp2_with fail
  refine HP.out.mono ?_
  rintro e w1 ⟨rfl, n, rfl⟩
  rw [HD.out]
  go_wp2_with fail
  go_returns
  exact ⟨rfl, n, rfl⟩
def RS.rput (R : RS) (a v : Nat) (all : Bool) : RS := if all then R.put a v else R.wr a v
theorem rput_any {w : World} {b : Nat} {S : Nat → Prop} {R : RS} (H : Ref w b S R) (a v : Nat) (ha : a < 4294967296) (hv : v < 256) (all : Bool) (x y : Int) (hx : x = (a : Int)) (hy : y = (v : Int)) :
    Calls Tryz.prog 141 #[.pointer (some ⟨b, 0, .none⟩), .int .u32 x, .int .u8 y, .bool all] w fun e w' => e = .returned (.tuple #[]) ∧ Ref w' b S (R.rput a v all) ∧ Keeps S w w' := by
 subst hx hy
 obtain ⟨g0, g1, g2, g3, I, hS⟩ := H
 by_cases h : R.place a < R.size ∧ (all = true ∨ R.only (R.place a / 4096) = false)
 ·have e : R.rput a v all = R.lay (R.place a) v := by
    unfold RS.rput RS.put RS.wr
    cases all
    ·rw [if_neg (by simp), if_pos ⟨h.1, by simpa using h.2⟩]
    ·rw [if_pos rfl, if_pos h.1]
  rw [e]
  refine (rput_lay I a v ha hv all h.1 h.2).mono ?_
  rintro r w' ⟨rfl, I', K⟩
  exact ⟨rfl, ⟨g0, g1, g2, g3, I', hS⟩, K.mono fun k _ hk => (hS k).2 hk⟩
 ·have e : R.rput a v all = R := by
    unfold RS.rput RS.put RS.wr
    cases all
    ·rw [if_neg (by simp), if_neg (fun x => h ⟨x.1, .inr x.2⟩)]
    ·rw [if_pos rfl, if_neg (fun x => h ⟨x, .inl rfl⟩)]
  rw [e]
  refine (rput_no I a v ha all ?_).mono ?_
  ·by_cases h1 : R.place a < R.size
   ·right
    cases all
    ·refine ⟨rfl, h1, ?_⟩
     cases ho : R.only (R.place a / 4096)
     ·exact absurd ⟨h1, .inr ho⟩ h
     ·rfl
    ·exact absurd ⟨h1, .inl rfl⟩ h
   ·exact .inl h1
  ·rintro r w' ⟨rfl, n, rfl⟩
   exact ⟨rfl, ⟨g0, g1, g2, g3, I.drewN n, hS⟩, (Keeps.refl _ _).drewN n⟩
theorem rbyte_anyv {w : World} {b : Nat} {S : Nat → Prop} {R : RS} (H : Ref w b S R) (a : Nat) (x : Int) (hx : x = (a : Int)) (ha : a < 4294967296) :
    Calls Tryz.prog 209 #[.pointer (some ⟨b, 0, .none⟩), .int .u32 x] w fun e w' => e = .returned (.int .u8 (R.get a : Nat)) ∧ ∃ n, w' = w.drewN n := by
 obtain ⟨g0, g1, g2, g3, I, hS⟩ := H
 rw [hx]; exact rbyte_any I a ha
end Go.Proofs.YtmpcafdgkbpneaaGreat

/- the document's memory: Read, Write, Rom, New. -/
namespace Go.Proofs.YtmpcafdgkbpneaaGreat
open Go.RowKit Go.MapKept
set_option linter.unusedVariables false

theorem add_shift (v b k : Nat) (hv : v < 256 ^ k) (hb : b < 256) (hk : k < 4) : ((b : Int) * 2 ^ (8 * k) % 4294967296) = ((b * 256 ^ k : Nat) : Int) ∧ v + b * 256 ^ k < 4294967296 := by
 have hp : (256 : Nat) ^ k = 2 ^ (8 * k) := by rw [Nat.pow_mul]
 have hle : b * 256 ^ k ≤ 255 * 256 ^ k := Nat.mul_le_mul_right _ (by omega)
 have h3 : 256 ^ k ≤ 256 ^ 3 := Nat.pow_le_pow_right (by decide) (by omega)
 refine ⟨?_, by omega⟩
 rw [hp]
 rw [hp] at hle h3
 rw [Int.emod_eq_of_lt]
 ·simp
 ·exact Int.mul_nonneg (by omega) (Int.pow_nonneg (by decide))
 ·have : ((b : Int) * 2 ^ (8 * k)) = ((b * 2 ^ (8 * k) : Nat) : Int) := by simp
  rw [this]; omega

theorem shr_byte2 (v k : Nat) : ((v : Int) / 2 ^ (8 * k)).tmod 256 % 256 = ((v / 256 ^ k % 256 : Nat) : Int) := by
 rw [Int.tmod_eq_emod_of_nonneg (Int.ediv_nonneg (by omega) (Int.pow_nonneg (by decide))), Int.emod_emod_of_dvd _ (by decide), shr_byte]
theorem rread_1 {w : World} {b : Nat} {S : Nat → Prop} {R : RS} (H : Ref w b S R) (a : Nat) (ha : a < 4294967296) :
    Calls Tryz.prog 217 #[.pointer (some ⟨b, 0, .none⟩), .int .u32 a, .int .i64 1] w fun e w' => e = .returned (.tuple #[.int .u32 (R.read a 1 : Nat), .int .i64 0]) ∧ ∃ n, w' = w.drewN n := by
 go_enter Tryz.func217, Tryz.ntmps217
 go_wp2_with fail
 go_loopw [8, 9] (fun v i wr => ∃ k : Nat, k ≤ 1 ∧ i = .int .i64 k ∧ v = .int .u32 (R.read a k : Nat) ∧ ∃ n, wr = w.drewN n) (fun _ i _ => 1 - (intOf i).toNat)
 case atStart => exact ⟨0, by omega, rfl, rfl, 0, rfl⟩
 case round =>
  obtain ⟨k, hk, rfl, rfl, n, rfl⟩ := hrel
  by_cases hlt : k < 1
  ·go_wp2_with fail
   refine (rbyte_anyv (H.drewN n) (at32 a k) _ (by unfold at32; omega) (at32_lt _ _)).mono ?_
   rintro e w1 ⟨rfl, n2, rfl⟩
   have hb := RS.get_lt H.isok (at32 a k)
   have hr := RS.read_lt H.isok a k
   have HR := Lib.hid (show R.read a (k + 1) = R.read a k + R.get (at32 a k) * 256 ^ k from rfl)
   have HO := Lib.hid (add_shift (R.read a k) (R.get (at32 a k)) k hr hb (by omega))
   generalize R.read a k = x at *
   generalize R.get (at32 a k) = y at *
   go_wp2_with fail
   go_roundw
   case rel =>
    refine ⟨k + 1, by omega, by go_num, ?_, _, rfl⟩
    rw [HR.out, HO.out.1]
    have := HO.out.2
    congr 1
    omega
   case measure => (simp [intOf]) <;> omega
  ·have hk2 : k = 1 := by omega
   have HK := Lib.hid hk2
   clear hk2
   go_wp2_with fail
   go_ret2
   exact ⟨by rw [HK.out]; rfl, n, rfl⟩
theorem rwrite_2 {w : World} {b : Nat} {S : Nat → Prop} {R : RS} (H : Ref w b S R) (a v : Nat) (ha : a < 4294967296) (hv : v < 4294967296) :
    Calls Tryz.prog 70 #[.pointer (some ⟨b, 0, .none⟩), .int .u32 a, .int .i64 2, .int .u32 v] w fun e w' => e = .returned (.int .i64 0) ∧ Ref w' b S (R.write a v 2) ∧ Keeps S w w' := by
 go_enter Tryz.func70, Tryz.ntmps70
 go_wp2_with fail
 go_loopw [9] (fun i wr => ∃ k : Nat, k ≤ 2 ∧ i = .int .i64 k ∧ Ref wr b S (R.write a v k) ∧ Keeps S w wr) (fun i _ => 2 - (intOf i).toNat)
 case atStart => exact ⟨0, by omega, rfl, H, Keeps.refl S w⟩
 case round =>
  obtain ⟨k, hk, rfl, H', K'⟩ := hrel
  by_cases hlt : k < 2
  ·have HB := Lib.hid (shr_byte2 v k)
   have HW := Lib.hid (show R.write a v (k + 1) = (R.write a v k).rput (at32 a k) (v / 256 ^ k % 256) false from rfl)
   go_wp2_with fail
   refine (rput_any H' (at32 a k) (v / 256 ^ k % 256) (at32_lt _ _) (Nat.mod_lt _ (by decide)) false _ _ (by unfold at32; omega) (by rw [← HB.out])).mono ?_
   rintro e w1 ⟨rfl, H1, K1⟩
   rw [← HW.out] at H1
   have K2 := K'.trans K1
   clear H' K' K1
   go_wp2_with fail
   go_roundw
   case rel => exact ⟨k + 1, by omega, by go_num, H1, K2⟩
   case measure => (simp [intOf]) <;> omega
  ·have hk2 : k = 2 := by omega
   have HK := Lib.hid hk2
   clear hk2
   go_wp2_with fail
   go_returns
   exact ⟨rfl, by rw [← HK.out]; exact H', K'⟩
theorem rwrite_4 {w : World} {b : Nat} {S : Nat → Prop} {R : RS} (H : Ref w b S R) (a v : Nat) (ha : a < 4294967296) (hv : v < 4294967296) :
    Calls Tryz.prog 70 #[.pointer (some ⟨b, 0, .none⟩), .int .u32 a, .int .i64 4, .int .u32 v] w fun e w' => e = .returned (.int .i64 0) ∧ Ref w' b S (R.write a v 4) ∧ Keeps S w w' := by
 go_enter Tryz.func70, Tryz.ntmps70
 go_wp2_with fail
 go_loopw [9] (fun i wr => ∃ k : Nat, k ≤ 4 ∧ i = .int .i64 k ∧ Ref wr b S (R.write a v k) ∧ Keeps S w wr) (fun i _ => 4 - (intOf i).toNat)
 case atStart => exact ⟨0, by omega, rfl, H, Keeps.refl S w⟩
 case round =>
  obtain ⟨k, hk, rfl, H', K'⟩ := hrel
  by_cases hlt : k < 4
  ·have HB := Lib.hid (shr_byte2 v k)
   have HW := Lib.hid (show R.write a v (k + 1) = (R.write a v k).rput (at32 a k) (v / 256 ^ k % 256) false from rfl)
   go_wp2_with fail
   refine (rput_any H' (at32 a k) (v / 256 ^ k % 256) (at32_lt _ _) (Nat.mod_lt _ (by decide)) false _ _ (by unfold at32; omega) (by rw [← HB.out])).mono ?_
   rintro e w1 ⟨rfl, H1, K1⟩
   rw [← HW.out] at H1
   have K2 := K'.trans K1
   clear H' K' K1
   go_wp2_with fail
   go_roundw
   case rel => exact ⟨k + 1, by omega, by go_num, H1, K2⟩
   case measure => (simp [intOf]) <;> omega
  ·have hk2 : k = 4 := by omega
   have HK := Lib.hid hk2
   clear hk2
   go_wp2_with fail
   go_returns
   exact ⟨rfl, by rw [← HK.out]; exact H', K'⟩
theorem rrom_any {w : World} {b : Nat} {S : Nat → Prop} {R : RS} (H : Ref w b S R) (n : Int) (x : Bool) :
    Calls Tryz.prog 72 #[.pointer (some ⟨b, 0, .none⟩), .int .i64 n, .bool x] w fun e w' => e = .returned (.int .i64 (romErr R n)) ∧ Ref w' b S (R.romAt n x) ∧ Keeps S w w' := by
 obtain ⟨g0, g1, g2, g3, I, hS⟩ := H
 obtain ⟨-, k1, -, -, -⟩ := I.facts
 have h256 := I.ok.p2
 by_cases h : 0 ≤ n ∧ n < R.pages
 ·obtain ⟨m, rfl⟩ := Int.eq_ofNat_of_zero_le h.1
  have hm : m < R.pages := by omega
  have e : romGood R (m : Int) = true := by unfold romGood; simp; omega
  have hc : w.cell? ⟨g1, m, .none⟩ = some (.bool (R.only m)) := by rw [cell_at I.r1, boolCells_at _ _ _ hm]
  have f1 : ∀ k, w.frozen? ⟨g1, k, .none⟩ = false := fun k => free_at I.r1
  have I1 := I.set1 m x hm
  have K1 : Keeps S w (w.setCell ⟨g1, m, .none⟩ (.bool x)) := (Keeps.refl S w).setCell (.inl ((hS g1).2 (.inr (.inr (.inl rfl))))) _
  unfold romErr RS.romAt
  rw [e]
  clear e
  go_enter Tryz.func72, Tryz.ntmps72
  go_wp2_with fail
  go_returns
  exact ⟨rfl, ⟨g0, g1, g2, g3, I1, hS⟩, K1⟩
 ·have e : romGood R n = false := by unfold romGood; simp; omega
  unfold romErr RS.romAt
  rw [e]
  clear e
  by_cases h0 : n < 0
  all_goals
   go_enter Tryz.func72, Tryz.ntmps72
   go_wp2_with fail
   go_returns
   exact ⟨rfl, ⟨g0, g1, g2, g3, I, hS⟩, Keeps.refl _ _⟩
end Go.Proofs.YtmpcafdgkbpneaaGreat

