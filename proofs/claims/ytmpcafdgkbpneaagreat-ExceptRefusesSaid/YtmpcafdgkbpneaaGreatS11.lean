/- Steps of a proof: VmSeg, VmE, VmF, together. -/
import Derived.Test.YtmpcafdgkbpneaaGreatS9
import Derived.Test.YtmpcafdgkbpneaaGreatS10
import Derived.StillTailTactics
import Derived.Test.YtmpcafdgkbpneaaGreatS8
import Derived.LoopN
import Derived.Deep.LoopGhost
/- VmH, VmI, VmJ, together. -/
/- vmem: segment. -/
set_option maxHeartbeats 4000000
set_option maxRecDepth 20000
namespace Go.Proofs.YtmpcafdgkbpneaaGreat
open Go.RowKit Go.MapKept
set_option linter.unusedVariables false
attribute [local go_sem ↓] Go.wp_at_zero Go.wp_at_succ

inductive SegGot where
 | ok (s : SpanS)
 | no (vec cd : Int) (at_ : Nat)
def SegGot.of : PgR → SegGot
 | .ok s => .ok s
 | .fault cd a => .no 14 cd a
def SegR.reach (s : SegR) (off size : Nat) (wr : Bool) : Bool := Go.Proofs.YtmpcafdgkbpneaaGreat.reach s.lim s.typ s.sys s.pre s.big off size wr
def isSize (size : Int) : Prop := size = 1 ∨ size = 2 ∨ size = 4
instance (size : Int) : Decidable (isSize size) := inferInstanceAs (Decidable (_ ∨ _ ∨ _))
def sg2 (R : RS) (C : CpuS) (seg : Nat) (off size : Nat) (wr : Bool) : SegGot × RS :=
 if (C.seg seg).nul = false ∧ (C.seg seg).reach off size wr = true then (SegGot.of (pg R C (((C.seg seg).base + off) % 4294967296) size wr C.user).1, (pg R C (((C.seg seg).base + off) % 4294967296) size wr C.user).2)
 else (.no (if seg = 2 then 12 else 13) 0 0, R)
def sg (R : RS) (C : CpuS) (seg : Int) (off : Nat) (size : Int) (wr : Bool) : SegGot × RS :=
 if isSize size ∧ 0 ≤ seg ∧ seg ≤ 5 then sg2 R C seg.toNat off size.toNat wr else (.no 13 0 0, R)
def GotEnd (w : World) (vb : Nat) (places : Pl) (n : Nat) (H : Nat → Prop) (g : SegGot × RS) (e : Ending) (w' : World) : Prop :=
 (∀ s, g.1 = .ok s → e = .returned s.val) ∧ (∀ v cd a, g.1 = .no v cd a → e = gaveUp v cd a) ∧ ∃ H', Vm w' vb places n H' g.2 ∧ Moves H H' w w'
section
variable {w w' w2 : World} {vb cb : Nat} {places : Pl} {n : Nat} {H H' : Nat → Prop} {R R' : RS} {C : CpuS}
theorem Vm.keeps {g : Nat} (hV : Vm w vb places n H R) (hk : Keeps (· = g) w w') (hg : ¬ H g) : Vm w' vb places n H R :=
 hV.of_heap fun k hk2 => hk.block k (hV.lt k hk2) (fun e => hg (by rw [← e]; exact hk2))
theorem Moves.setNew {S S' : Nat → Prop} {g : Nat} (M : Moves S S' w w') (hk : Keeps (· = g) w' w2) (hg : w.heap.size ≤ g) : Moves S S' w w2 :=
 ⟨M.1.andThen hk fun i hi e => by omega, fun k h => M.2 k h⟩
theorem pages_ok (hV : Vm w vb places n H R) (hC : CpuAt w cb C) (hcb : ¬ H cb) (lin size : Nat) (hl : lin < 4294967296) (hs : size = 1 ∨ size = 2 ∨ size = 4) (wr us wp0 : Bool) (hn : (n + 2) * 12 ≤ 140737488355328) (x y : Int) (hx : x = (lin : Int)) (hy : y = (size : Int)) {s : SpanS} (h : (pg R C lin size wr us).1 = .ok s) :
    Calls Tryz.prog 137 #[.pointer (some ⟨vb, 0, none⟩), .pointer (some ⟨cb, 0, none⟩), .int .u32 x, .int .i64 y, .agg #[.bool wr, .bool us, .bool wp0]] w fun e w' =>
     e = .returned (.agg #[.int .u32 (s.a0 : Nat), .int .u32 (s.a1 : Nat), .int .u32 (s.n0 : Nat), .int .u32 (s.n1 : Nat)]) ∧ ∃ H', Vm w' vb places (n + 2) H' (pg R C lin size wr us).2 ∧ Moves H H' w w' :=
 (pages_any hV hC hcb lin size hl (by omega) (by omega) wr us wp0 hn x y hx hy).mono fun e w' ⟨h1, _, h3⟩ => ⟨h1 s h, h3⟩
theorem pages_no (hV : Vm w vb places n H R) (hC : CpuAt w cb C) (hcb : ¬ H cb) (lin size : Nat) (hl : lin < 4294967296) (hs : size = 1 ∨ size = 2 ∨ size = 4) (wr us wp0 : Bool) (hn : (n + 2) * 12 ≤ 140737488355328) (x y : Int) (hx : x = (lin : Int)) (hy : y = (size : Int)) {cd : Int} {a : Nat} (h : (pg R C lin size wr us).1 = .fault cd a) :
    Calls Tryz.prog 137 #[.pointer (some ⟨vb, 0, none⟩), .pointer (some ⟨cb, 0, none⟩), .int .u32 x, .int .i64 y, .agg #[.bool wr, .bool us, .bool wp0]] w fun e w' =>
     e = .panicked [{ v := faultV 14 cd a, recovered := false }] ∧ ∃ H', Vm w' vb places (n + 2) H' (pg R C lin size wr us).2 ∧ Moves H H' w w' :=
 (pages_any hV hC hcb lin size hl (by omega) (by omega) wr us wp0 hn x y hx hy).mono fun e w' ⟨_, h2, h3⟩ => ⟨h2 cd a h, h3⟩
theorem reach_seg (s : SegR) (hok : s.ok) (off size : Nat) (ho : off < 4294967296) (hs : size = 1 ∨ size = 2 ∨ size = 4) (wr : Bool) (w : World) :
    Calls Tryz.prog 159 #[.agg #[.int .u32 (s.base : Nat), .int .u32 (s.lim : Nat), .int .i64 s.typ, .bool s.sys, .int .i64 s.dpl, .bool s.pre, .bool s.big], .int .u32 (off : Nat), .int .i64 (size : Nat), .bool wr] w fun e w' =>
     e = .returned (.bool (s.reach off size wr)) ∧ Below w.heap.size w w' := by
 have hb := hok.base
 have hl := hok.lim
 rcases hs with rfl | rfl | rfl
 ·exact reach_one _ _ _ _ _ _ _ _ _ _ (by omega) (by omega) (by omega) (by omega)
 ·exact reach_two _ _ _ _ _ _ _ _ _ _ (by omega) (by omega) (by omega) (by omega)
 ·exact reach_four _ _ _ _ _ _ _ _ _ _ (by omega) (by omega) (by omega) (by omega)
theorem got_bad (hV : Vm w vb places n H R) {n' : Nat} (hn : n ≤ n') (vec : Int) (hb : Below w.heap.size w w') : GotEnd w vb places n' H (.no vec 0 0, R) (gaveUp vec 0 0) w' :=
 ⟨(fun s h => by cases h), (fun v cd a h => by cases h; rfl), H, (hV.more hn).below hb, Moves.ofBelow hb⟩
theorem segment_bad (hV : Vm w vb places n H R) (seg : Int) (off : Nat) (size : Int) (wr : Bool) (h : ¬ isSize size) :
    Calls Tryz.prog 105 #[.pointer (some ⟨vb, 0, none⟩), .pointer (some ⟨cb, 0, none⟩), .int .i64 seg, .int .u32 (off : Nat), .int .i64 size, .bool wr] w (GotEnd w vb places (n + 2) H (sg R C seg off size wr)) := by
 have e : sg R C seg off size wr = (.no 13 0 0, R) := by unfold sg; rw [if_neg (fun hh => h hh.1)]
 rw [e]
 have HV := Lib.hid hV
 have c := Lib.hid (fun W => sized_bad (some ⟨vb, 0, none⟩) (some ⟨cb, 0, none⟩) size (fun e => h (.inl e)) (fun e => h (.inr (.inl e))) (fun e => h (.inr (.inr e))) W)
 clear hV h e
 go_enter Tryz.func105, Tryz.ntmps105
 go_wp2_with (go_at_call 136; refine (c.out _).mono ?_; rintro e w' ⟨he, rfl⟩; unfold gaveUp faultV at he; subst he)
 exact ⟨rfl, got_bad HV.out (by omega) 13 ((Below.refl _ _).alloc (Nat.le_refl _) _)⟩
theorem segment_out (hV : Vm w vb places n H R) (seg : Int) (off : Nat) (size : Int) (wr : Bool) (h : isSize size) (h2 : ¬ (0 ≤ seg ∧ seg ≤ 5)) :
    Calls Tryz.prog 105 #[.pointer (some ⟨vb, 0, none⟩), .pointer (some ⟨cb, 0, none⟩), .int .i64 seg, .int .u32 (off : Nat), .int .i64 size, .bool wr] w (GotEnd w vb places (n + 2) H (sg R C seg off size wr)) := by
 have e : sg R C seg off size wr = (.no 13 0 0, R) := by unfold sg; rw [if_neg (fun hh => h2 hh.2)]
 rw [e]
 have HV := Lib.hid hV
 have c := Lib.hid (fun W => sized_ok vb cb size h W)
 have hs : seg < 0 ∨ (0 ≤ seg ∧ 5 < seg) := by omega
 clear hV h e h2
 rcases hs with hs | ⟨hs0, hs⟩
 all_goals
  go_enter Tryz.func105, Tryz.ntmps105
  go_wp2_with (first | (go_at_call 136; refine (c.out _).mono ?_; rintro e w' ⟨rfl, rfl⟩) | (go_at_call 158; refine (general_any _ _).mono ?_; rintro e w' ⟨he, rfl⟩; unfold gaveUp faultV at he; subst he))
  exact ⟨rfl, got_bad HV.out (by omega) 13 ((Below.refl _ _).alloc (Nat.le_refl _) _)⟩
end
end Go.Proofs.YtmpcafdgkbpneaaGreat

/- vmem: segment, behind the size. -/
namespace Go.Proofs.YtmpcafdgkbpneaaGreat
open Go.RowKit Go.MapKept
set_option linter.unusedVariables false
attribute [local go_sem ↓] Go.wp_at_zero Go.wp_at_succ

section
variable {w w' w2 : World} {vb cb : Nat} {places : Pl} {n : Nat} {H H' : Nat → Prop} {R R' : RS} {C : CpuS}
theorem sg_in {i off size : Nat} {wr : Bool} (hs : size = 1 ∨ size = 2 ∨ size = 4) (hi : i < 6) : sg R C (i : Int) off (size : Int) wr = sg2 R C i off size wr := by
 unfold sg
 have h : isSize (size : Int) ∧ 0 ≤ (i : Int) ∧ (i : Int) ≤ 5 := ⟨by rcases hs with rfl | rfl | rfl <;> unfold isSize <;> simp, by omega, by omega⟩
 rw [if_pos h]
 rfl
theorem sg2_no {i off size : Nat} {wr : Bool} (h : ¬ ((C.seg i).nul = false ∧ (C.seg i).reach off size wr = true)) : sg2 R C i off size wr = (.no (if i = 2 then 12 else 13) 0 0, R) := by unfold sg2; rw [if_neg h]
theorem sg2_yes {i off size : Nat} {wr : Bool} (h : (C.seg i).nul = false ∧ (C.seg i).reach off size wr = true) : sg2 R C i off size wr = (SegGot.of (pg R C (((C.seg i).base + off) % 4294967296) size wr C.user).1, (pg R C (((C.seg i).base + off) % 4294967296) size wr C.user).2) := by unfold sg2; rw [if_pos h]
theorem CpuAt.seg7 {b : Nat} (h : CpuAt w b C) (i : Nat) (hi : i < 6) :
    w.cell? ⟨b, 10 + i * 9 + 1, none⟩ = some (.bool (C.seg i).nul) ∧ w.cell? ⟨b, 10 + i * 9 + 2, none⟩ = some (.int .u32 ((C.seg i).base : Nat)) ∧ w.cell? ⟨b, 10 + i * 9 + 2 + 1, none⟩ = some (.int .u32 ((C.seg i).lim : Nat)) ∧
     w.cell? ⟨b, 10 + i * 9 + 2 + 2, none⟩ = some (.int .i64 (C.seg i).typ) ∧ w.cell? ⟨b, 10 + i * 9 + 2 + 3, none⟩ = some (.bool (C.seg i).sys) ∧ w.cell? ⟨b, 10 + i * 9 + 2 + 4, none⟩ = some (.int .i64 (C.seg i).dpl) ∧ w.cell? ⟨b, 10 + i * 9 + 2 + 5, none⟩ = some (.bool (C.seg i).pre) ∧ w.cell? ⟨b, 10 + i * 9 + 2 + 6, none⟩ = some (.bool (C.seg i).big) ∧ b < w.heap.size := by
 obtain ⟨-, h1, h2, h3, h4, h5, h6, h7, h8⟩ := h.segAt i hi
 exact ⟨h1, h2, h3, h4, h5, h6, h7, h8, h.lt⟩
theorem segment_no (hV : Vm w vb places n H R) (hC : CpuAt w cb C) (i off size : Nat) (hi : i < 6) (ho : off < 4294967296) (hs : size = 1 ∨ size = 2 ∨ size = 4) (wr : Bool) (h : ¬ ((C.seg i).nul = false ∧ (C.seg i).reach off size wr = true)) :
    Calls Tryz.prog 105 #[.pointer (some ⟨vb, 0, none⟩), .pointer (some ⟨cb, 0, none⟩), .int .i64 (i : Nat), .int .u32 (off : Nat), .int .i64 (size : Nat), .bool wr] w (GotEnd w vb places (n + 2) H (sg R C (i : Int) off (size : Int) wr)) := by
 rw [sg_in hs hi, sg2_no h]
 have HV := Lib.hid hV
 have c := Lib.hid (fun W => sized_ok vb cb (size : Int) (by rcases hs with rfl | rfl | rfl <;> simp) W)
 have cr := Lib.hid (fun W => reach_seg (C.seg i) (hC.1.seg i) off size ho hs wr W)
 obtain ⟨k1, k2, k3, k4, k5, k6, k7, k8, kl⟩ := hC.seg7 i hi
 cases hn : (C.seg i).nul with
 | true =>
  have HN := Lib.hid hn
  rw [hn] at k1
  clear hV h hC hn
  by_cases h2 : i = 2
  ·have H2 := Lib.hid (show (if i = 2 then (12 : Int) else 13) = 12 from if_pos h2)
   have e2 : ((i : Int) == 2) = true := by simp; omega
   rw [H2.out]
   clear h2
   go_enter Tryz.func105, Tryz.ntmps105
   go_wp2_with (first | (go_at_call 136; refine (c.out _).mono ?_; rintro e w' ⟨rfl, rfl⟩) | (go_at_call 158; refine (general_any _ _).mono ?_; rintro e w' ⟨he, rfl⟩; unfold gaveUp faultV at he; subst he))
   exact ⟨rfl, got_bad HV.out (by omega) 12 ((Below.refl _ _).alloc (Nat.le_refl _) _)⟩
  ·have H2 := Lib.hid (show (if i = 2 then (12 : Int) else 13) = 13 from if_neg h2)
   have e2 : ((i : Int) == 2) = false := by simp; omega
   rw [H2.out]
   clear h2
   go_enter Tryz.func105, Tryz.ntmps105
   go_wp2_with (first | (go_at_call 136; refine (c.out _).mono ?_; rintro e w' ⟨rfl, rfl⟩) | (go_at_call 158; refine (general_any _ _).mono ?_; rintro e w' ⟨he, rfl⟩; unfold gaveUp faultV at he; subst he))
   exact ⟨rfl, got_bad HV.out (by omega) 13 ((Below.refl _ _).alloc (Nat.le_refl _) _)⟩
 | false =>
  have HR : Hid ((C.seg i).reach off size wr = false) := Lib.hid (by cases hh : (C.seg i).reach off size wr with | true => exact (h ⟨hn, hh⟩).elim | false => rfl)
  rw [hn] at k1
  clear hV h hC hn
  by_cases h2 : i = 2
  ·have H2 := Lib.hid (show (if i = 2 then (12 : Int) else 13) = 12 from if_pos h2)
   have e2 : ((i : Int) == 2) = true := by simp; omega
   rw [H2.out]
   clear h2
   go_enter Tryz.func105, Tryz.ntmps105
   go_wp2_with (first | (go_at_call 136; refine (c.out _).mono ?_; rintro e w' ⟨rfl, rfl⟩) | (go_at_call 159; refine (cr.out _).mono ?_; rintro e w2 ⟨he, hb2⟩; rw [HR.out] at he; subst he; have HB2 := Lib.hid hb2; clear hb2) | (go_at_call 158; refine (general_any _ _).mono ?_; rintro e w' ⟨he, rfl⟩; unfold gaveUp faultV at he; subst he))
   exact ⟨rfl, got_bad HV.out (by omega) 12 (((Below.refl _ _).alloc (Nat.le_refl _) _).trans (HB2.out.mono (by simp)))⟩
  ·have H2 := Lib.hid (show (if i = 2 then (12 : Int) else 13) = 13 from if_neg h2)
   have e2 : ((i : Int) == 2) = false := by simp; omega
   rw [H2.out]
   clear h2
   go_enter Tryz.func105, Tryz.ntmps105
   go_wp2_with (first | (go_at_call 136; refine (c.out _).mono ?_; rintro e w' ⟨rfl, rfl⟩) | (go_at_call 159; refine (cr.out _).mono ?_; rintro e w2 ⟨he, hb2⟩; rw [HR.out] at he; subst he; have HB2 := Lib.hid hb2; clear hb2) | (go_at_call 158; refine (general_any _ _).mono ?_; rintro e w' ⟨he, rfl⟩; unfold gaveUp faultV at he; subst he))
   exact ⟨rfl, got_bad HV.out (by omega) 13 (((Below.refl _ _).alloc (Nat.le_refl _) _).trans (HB2.out.mono (by simp)))⟩
end
end Go.Proofs.YtmpcafdgkbpneaaGreat

/- vmem: segment, let. -/
namespace Go.Proofs.YtmpcafdgkbpneaaGreat
open Go.RowKit Go.MapKept
set_option linter.unusedVariables false
attribute [local go_sem ↓] Go.wp_at_zero Go.wp_at_succ

section
variable {w w' w2 : World} {vb cb : Nat} {places : Pl} {n : Nat} {H H' : Nat → Prop} {R R' : RS} {C : CpuS}
theorem wrap_u32 (a b : Nat) : IntKind.u32.wrap ((a : Int) + (b : Int)) = (((a + b) % 4294967296 : Nat) : Int) := by
 rw [IntKind.wrap_u32]; omega
theorem cell_sets4_ne (w : World) {b c k : Nat} (h : c ≠ b) (v0 v1 v2 v3 : Value) : (sets4 w b v0 v1 v2 v3).cell? ⟨c, k, none⟩ = w.cell? ⟨c, k, none⟩ := by
 unfold sets4
 refine World.cell?_of_block (a := ⟨c, k, none⟩) ?_
 rw [heap_set_ne _ _ _ _ _ h, heap_set_ne _ _ _ _ _ h, heap_set_ne _ _ _ _ _ h, heap_set_ne _ _ _ _ _ h]
theorem got_laid {g : Nat} (hV : Vm w' vb places n H' R') (M : Moves H H' w w') (hg : w.heap.size ≤ g) (hn : ¬ H' g) (v0 v1 v2 v3 : Value) : ∃ H'', Vm (sets4 w' g v0 v1 v2 v3) vb places n H'' R' ∧ Moves H H'' w (sets4 w' g v0 v1 v2 v3) :=
 ⟨H', hV.keeps (keeps_sets4 w' g v0 v1 v2 v3) hn, M.setNew (keeps_sets4 w' g v0 v1 v2 v3) hg⟩
theorem segment_ok (hV : Vm w vb places n H R) (hC : CpuAt w cb C) (hcb : ¬ H cb) (i off size : Nat) (hi : i < 6) (ho : off < 4294967296) (hs : size = 1 ∨ size = 2 ∨ size = 4) (wr : Bool) (hnb : (n + 2) * 12 ≤ 140737488355328) (h : (C.seg i).nul = false ∧ (C.seg i).reach off size wr = true) {s : SpanS} (hp : (pg R C (((C.seg i).base + off) % 4294967296) size wr C.user).1 = .ok s) :
    Calls Tryz.prog 105 #[.pointer (some ⟨vb, 0, none⟩), .pointer (some ⟨cb, 0, none⟩), .int .i64 (i : Nat), .int .u32 (off : Nat), .int .i64 (size : Nat), .bool wr] w (GotEnd w vb places (n + 2) H (sg R C (i : Int) off (size : Int) wr)) := by
 rw [sg_in hs hi, sg2_yes h]
 have HV := Lib.hid hV
 have HC := Lib.hid hC
 have HCB := Lib.hid hcb
 have HN := Lib.hid hnb
 have HS := Lib.hid hs
 have HP := Lib.hid hp
 have HI := Lib.hid hi
 have c := Lib.hid (fun W => sized_ok vb cb (size : Int) (by rcases hs with rfl | rfl | rfl <;> simp) W)
 have cr := Lib.hid (fun W => (reach_seg (C.seg i) (hC.1.seg i) off size ho hs wr W).mono fun e w' ⟨he, hb⟩ => (⟨by rw [he, h.2], hb⟩ : e = Ending.returned (.bool true) ∧ Below W.heap.size W w'))
 obtain ⟨k1, k2, k3, k4, k5, k6, k7, k8, kl⟩ := hC.seg7 i hi
 rw [h.1] at k1
 have hbase := (hC.1.seg i).base
 have HW : Hid (IntKind.u32.wrap (((C.seg i).base : Int) + (off : Int)) = ((((C.seg i).base + off) % 4294967296 : Nat) : Int)) := Lib.hid (wrap_u32 _ _)
 clear hV h hC hs hp hcb hnb
 go_enter Tryz.func105, Tryz.ntmps105
 go_upto_region 10 with (first | (go_at_call 136; refine (c.out _).mono ?_; rintro e w' ⟨rfl, rfl⟩) | (go_at_call 159; refine (cr.out _).mono ?_; rintro e w2 ⟨rfl, hb2⟩; have HB2 := Lib.hid hb2; clear hb2 k1 k2 k3 k4 k5 k6 k7 k8))
 have HB : Hid (Below w.heap.size w w2) := Lib.hid (((Below.refl w.heap.size w).alloc (Nat.le_refl _) (.cells #[.int .u32 0, .int .u32 0, .int .u32 0, .int .u32 0] 196)).trans (HB2.out.mono (by simp)))
 have HZ := Lib.hid (heap_below HB2.out (heap_new w (.cells #[.int .u32 0, .int .u32 0, .int .u32 0, .int .u32 0] 196)))
 clear HB2
 have HCd : Hid (CpuAt w2.drew cb C) := Lib.hid (HC.out.below HB.out.drew)
 have HVd : Hid (Vm w2.drew vb places n H R) := Lib.hid (HV.out.below HB.out.drew)
 have cp := Lib.hid (pages_ok HVd.out HCd.out HCB.out (((C.seg i).base + off) % 4294967296) size (Nat.mod_lt _ (by decide)) HS.out wr C.user false HN.out (IntKind.u32.wrap (((C.seg i).base : Int) + (off : Int))) (size : Int) HW.out rfl HP.out)
 have cu := Lib.hid (user_any HCd.out)
 obtain ⟨-, q2, -, -, -, -, -, -, ql⟩ := HCd.out.seg7 i HI.out
 have j2 : w2.cell? ⟨cb, 10 + i * 9 + 2, none⟩ = some (.int .u32 ((C.seg i).base : Nat)) := q2
 have HKL := Lib.hid kl
 clear q2 ql kl
 go_region_held3 (fun w' => w'.cell? ⟨cb, 10 + i * 9 + 2, none⟩ = some (.int .u32 ((C.seg i).base : Nat)))
  (first | go_keep | exact (cell_sets4_ne W' (Nat.ne_of_lt HKL.out) _ _ _ _).trans q3)
  (first
  | (go_at_call 160; refine (cu.out).mono ?_; rintro e W' ⟨rfl, rfl⟩)
  | (go_at_call 137; refine (cp.out).mono ?_; rintro e W' ⟨rfl, H2, hV2, M2⟩; have q3 := ((HCd.out.of_heap (M2.1.block cb HCd.out.lt HCB.out)).seg7 i HI.out).2.1; have hz := (M2.1.block w.heap.size (by have := heap_lt HZ.out; simpa using this) (fun h => by have := HV.out.lt _ h; omega)).trans HZ.out; have z0 := cell_at (k := 0) hz; have z1 := cell_at (k := 1) hz; have z2 := cell_at (k := 2) hz; have z3 := cell_at (k := 3) hz; have zf : ∀ j, W'.frozen? ⟨w.heap.size, j, none⟩ = false := (fun j => free_at hz); have zl := heap_lt hz; simp at z0 z1 z2 z3; have HM := Lib.hid (And.intro hV2 M2); have HZZ := Lib.hid hz; clear hV2 M2 hz))
 all_goals
  have hl2 : w.heap.size < w2.heap.size := heap_lt HZ.out
  have hM0 : Moves H H w w2.drew := Moves.ofBelow HB.out.drew
  have HF := Lib.hid (got_laid HM.out.1 (hM0.trans HM.out.2) (Nat.le_refl _) (fun h => by
   rcases HM.out.2.2 _ h with h | h
   ·have := HV.out.lt _ h; omega
   ·have h' : w2.heap.size ≤ w.heap.size := h
    omega) (.int .u32 (s.a0 : Nat)) (.int .u32 (s.a1 : Nat)) (.int .u32 (s.n0 : Nat)) (.int .u32 (s.n1 : Nat)))
  have HS4 := Lib.hid (cell_sets4 HZZ.out (.int .u32 (s.a0 : Nat)) (.int .u32 (s.a1 : Nat)) (.int .u32 (s.n0 : Nat)) (.int .u32 (s.n1 : Nat)))
  clear hM0 hl2 z0 z1 z2 z3 zf zl q3 j2
  go_wp2_with fail
  change bodyPost _ _ _ _ _ (sets4 W' w.heap.size (.int .u32 (s.a0 : Nat)) (.int .u32 (s.a1 : Nat)) (.int .u32 (s.n0 : Nat)) (.int .u32 (s.n1 : Nat)))
  obtain ⟨r0, r1, r2, r3⟩ := HS4.out
  clear HS4
  generalize sets4 W' w.heap.size (.int .u32 (s.a0 : Nat)) (.int .u32 (s.a1 : Nat)) (.int .u32 (s.n0 : Nat)) (.int .u32 (s.n1 : Nat)) = Wf at *
  refine bodyPost_ret (v := s.val) (by simp [results, Tryz.results105, go_sem, r0, r1, r2, r3, SpanS.val]) rfl ?_
  rw [HP.out]
  exact ⟨(fun s' h => by cases h; rfl), (fun v cd a h => by cases h), HF.out⟩
theorem segment_fault (hV : Vm w vb places n H R) (hC : CpuAt w cb C) (hcb : ¬ H cb) (i off size : Nat) (hi : i < 6) (ho : off < 4294967296) (hs : size = 1 ∨ size = 2 ∨ size = 4) (wr : Bool) (hnb : (n + 2) * 12 ≤ 140737488355328) (h : (C.seg i).nul = false ∧ (C.seg i).reach off size wr = true) {cd : Int} {at_ : Nat} (hp : (pg R C (((C.seg i).base + off) % 4294967296) size wr C.user).1 = .fault cd at_) :
    Calls Tryz.prog 105 #[.pointer (some ⟨vb, 0, none⟩), .pointer (some ⟨cb, 0, none⟩), .int .i64 (i : Nat), .int .u32 (off : Nat), .int .i64 (size : Nat), .bool wr] w (GotEnd w vb places (n + 2) H (sg R C (i : Int) off (size : Int) wr)) := by
 rw [sg_in hs hi, sg2_yes h]
 have HV := Lib.hid hV
 have HC := Lib.hid hC
 have HCB := Lib.hid hcb
 have HN := Lib.hid hnb
 have HS := Lib.hid hs
 have HP := Lib.hid hp
 have HI := Lib.hid hi
 have c := Lib.hid (fun W => sized_ok vb cb (size : Int) (by rcases hs with rfl | rfl | rfl <;> simp) W)
 have cr := Lib.hid (fun W => (reach_seg (C.seg i) (hC.1.seg i) off size ho hs wr W).mono fun e w' ⟨he, hb⟩ => (⟨by rw [he, h.2], hb⟩ : e = Ending.returned (.bool true) ∧ Below W.heap.size W w'))
 obtain ⟨k1, k2, k3, k4, k5, k6, k7, k8, kl⟩ := hC.seg7 i hi
 rw [h.1] at k1
 have hbase := (hC.1.seg i).base
 have HW : Hid (IntKind.u32.wrap (((C.seg i).base : Int) + (off : Int)) = ((((C.seg i).base + off) % 4294967296 : Nat) : Int)) := Lib.hid (wrap_u32 _ _)
 clear hV h hC hs hp hcb hnb
 go_enter Tryz.func105, Tryz.ntmps105
 go_upto_region 10 with (first | (go_at_call 136; refine (c.out _).mono ?_; rintro e w' ⟨rfl, rfl⟩) | (go_at_call 159; refine (cr.out _).mono ?_; rintro e w2 ⟨rfl, hb2⟩; have HB2 := Lib.hid hb2; clear hb2 k1 k2 k3 k4 k5 k6 k7 k8))
 have HB : Hid (Below w.heap.size w w2) := Lib.hid (((Below.refl w.heap.size w).alloc (Nat.le_refl _) (.cells #[.int .u32 0, .int .u32 0, .int .u32 0, .int .u32 0] 196)).trans (HB2.out.mono (by simp)))
 clear HB2
 have HCd : Hid (CpuAt w2.drew cb C) := Lib.hid (HC.out.below HB.out.drew)
 have HVd : Hid (Vm w2.drew vb places n H R) := Lib.hid (HV.out.below HB.out.drew)
 have cp := Lib.hid (pages_no HVd.out HCd.out HCB.out (((C.seg i).base + off) % 4294967296) size (Nat.mod_lt _ (by decide)) HS.out wr C.user false HN.out (IntKind.u32.wrap (((C.seg i).base : Int) + (off : Int))) (size : Int) HW.out rfl HP.out)
 have cu := Lib.hid (user_any HCd.out)
 obtain ⟨-, q2, -, -, -, -, -, -, ql⟩ := HCd.out.seg7 i HI.out
 have j2 : w2.cell? ⟨cb, 10 + i * 9 + 2, none⟩ = some (.int .u32 ((C.seg i).base : Nat)) := q2
 have HKL := Lib.hid kl
 clear q2 ql kl
 have hM0 := Lib.hid (show Moves H H w w2.drew from Moves.ofBelow HB.out.drew)
 rw [HP.out]
 have cu2 : Calls Tryz.prog 160 #[.pointer (some ⟨cb, 0, none⟩)] w2.drew fun e w' => e = .returned (.bool C.user) ∧ w' = w2.drew := cu.out.mono fun e w' ⟨h1, h2⟩ => ⟨h1, h2.symm⟩
 have CU2 := Lib.hid cu2
 clear cu2
 go_still_tail 14, (by kernel_rfl)
 still_call CU2.out
 repeat still_step
 refine wpStill_nil ?_
 change wpList _ _ _ _ _ w2.drew
 go_wp2_with fail
 refine (cp.out).mono ?_
 rintro e W' ⟨rfl, H2, hV2, M2⟩
 exact ⟨rfl, (fun s h => by cases h), (fun v cd a h => by cases h; rfl), H2, hV2, hM0.out.trans M2⟩
theorem segment_any (hV : Vm w vb places n H R) (hC : CpuAt w cb C) (hcb : ¬ H cb) (seg : Int) (off : Nat) (size : Int) (ho : off < 4294967296) (wr : Bool) (hnb : (n + 2) * 12 ≤ 140737488355328) :
    Calls Tryz.prog 105 #[.pointer (some ⟨vb, 0, none⟩), .pointer (some ⟨cb, 0, none⟩), .int .i64 seg, .int .u32 (off : Nat), .int .i64 size, .bool wr] w (GotEnd w vb places (n + 2) H (sg R C seg off size wr)) := by
 by_cases h1 : isSize size
 ·by_cases h2 : 0 ≤ seg ∧ seg ≤ 5
  ·obtain ⟨i, rfl⟩ : ∃ i : Nat, seg = i := ⟨seg.toNat, by omega⟩
   obtain ⟨k, rfl⟩ : ∃ k : Nat, size = k := ⟨size.toNat, by rcases h1 with rfl | rfl | rfl <;> rfl⟩
   have hs : k = 1 ∨ k = 2 ∨ k = 4 := by unfold isSize at h1; omega
   have hi : i < 6 := by omega
   by_cases h : (C.seg i).nul = false ∧ (C.seg i).reach off k wr = true
   ·cases hp : (pg R C (((C.seg i).base + off) % 4294967296) k wr C.user).1 with
    | ok s => exact segment_ok hV hC hcb i off k hi ho hs wr hnb h hp
    | fault cd a => exact segment_fault hV hC hcb i off k hi ho hs wr hnb h hp
   ·exact segment_no hV hC i off k hi ho hs wr h
  ·exact segment_out hV seg off size wr h1 h2
 ·exact segment_bad hV seg off size wr h1
end
end Go.Proofs.YtmpcafdgkbpneaaGreat

/- vmem: get. -/
namespace Go.Proofs.YtmpcafdgkbpneaaGreat
open Go.RowKit Go.MapKept
set_option linter.unusedVariables false

def SpanS.at (s : SpanS) (j : Nat) : Nat := if j < s.n0 then at32 s.a0 j else at32 s.a1 (j - s.n0)
def getN (R : RS) (s : SpanS) : Nat → Nat
 | 0 => 0
 | j + 1 => getN R s j + R.get (s.at j) * 256 ^ j
theorem getN_lt {R : RS} (h : R.ok) (s : SpanS) (j : Nat) : getN R s j < 256 ^ j := by
 induction j with
 | zero => show 0 < 256 ^ 0; decide
 | succ j ih =>
  show getN R s j + R.get (s.at j) * 256 ^ j < 256 ^ (j + 1)
  have hb := RS.get_lt h (s.at j)
  have : R.get (s.at j) * 256 ^ j ≤ 255 * 256 ^ j := Nat.mul_le_mul_right _ (by omega)
  rw [Nat.pow_succ]
  omega
structure SpanS.ok (s : SpanS) : Prop where
 a0 : s.a0 < 4294967296
 a1 : s.a1 < 4294967296
 n : s.n0 + s.n1 ≤ 4
theorem read_b {W : World} {b : Nat} {S : Nat → Prop} {R : RS} (H : Ram W b S R) (a : Nat) (ha : a < 4294967296) (x : Int) (hx : x = (a : Int)) :
    Calls Tryz.prog 13 #[.pointer (some ⟨b, 0, .none⟩), .int .u32 x, .int .i64 1] W fun e w' => e = .returned (.tuple #[.int .u32 (R.get a : Nat), .int .i64 0]) ∧ ∃ n, w' = W.drewN n := by
 rw [hx]
 refine (read_1 H a ha).mono ?_
 rintro e w' ⟨he, hw⟩
 have : R.read a 1 = R.get a := by
  show 0 + R.get (at32 a 0) * 256 ^ 0 = R.get a
  have : at32 a 0 = a := by unfold at32; omega
  rw [this]; simp
 rw [this] at he
 exact ⟨he, hw⟩
theorem at_lo (s : SpanS) (j : Nat) (h : j < s.n0) : s.at j = at32 s.a0 j := by unfold SpanS.at; rw [if_pos h]
theorem at_hi (s : SpanS) (j : Nat) : s.at (s.n0 + j) = at32 s.a1 j := by unfold SpanS.at; rw [if_neg (by omega), Nat.add_sub_cancel_left]
theorem index_0 (a b : Int) (W : World) : (Instr.index 194 (.agg #[.int .u32 a, .int .u32 b]) (.int .i64 0)).run Tryz.prog W = .ok (.int .u32 a) W := by kernel_rfl
theorem index_1 (a b : Int) (W : World) : (Instr.index 194 (.agg #[.int .u32 a, .int .u32 b]) (.int .i64 1)).run Tryz.prog W = .ok (.int .u32 b) W := by kernel_rfl
section
variable {w : World} {vb : Nat} {places : Pl} {n : Nat} {H : Nat → Prop} {R : RS} {s : SpanS}
theorem get_span (hV : Vm w vb places n H R) (hs : s.ok) :
    Calls Tryz.prog 104 #[.pointer (some ⟨vb, 0, none⟩), .agg #[.int .u32 (s.a0 : Nat), .int .u32 (s.a1 : Nat), .int .u32 (s.n0 : Nat), .int .u32 (s.n1 : Nat)]] w fun e w' => e = .returned (.int .u32 (getN R s (s.n0 + s.n1) : Nat)) ∧ Below w.heap.size w w' := by
 have HV := Lib.hid hV
 obtain ⟨t, rb, G, ho, hK, -, -⟩ := hV
 obtain ⟨SR, hR, -, -⟩ := hK.ram
 have HR := Lib.hid hR
 have h0 := hs.a0
 have h1 := hs.a1
 have hn := hs.n
 have HB := Lib.hid ((Below.refl w.heap.size w).alloc (Nat.le_refl _) (.cells #[.int .u32 (s.a0 : Nat), .int .u32 (s.a1 : Nat), .int .u32 (s.n0 : Nat), .int .u32 (s.n1 : Nat)] 196))
 have hx := heap_new w (.cells #[.int .u32 (s.a0 : Nat), .int .u32 (s.a1 : Nat), .int .u32 (s.n0 : Nat), .int .u32 (s.n1 : Nat)] 196)
 have ho2 := heap_alloc_lt (o' := .cells #[.int .u32 (s.a0 : Nat), .int .u32 (s.a1 : Nat), .int .u32 (s.n0 : Nat), .int .u32 (s.n1 : Nat)] 196) ho
 have HR2 := Lib.hid (hR.alloc (.cells #[.int .u32 (s.a0 : Nat), .int .u32 (s.a1 : Nat), .int .u32 (s.n0 : Nat), .int .u32 (s.n1 : Nat)] 196))
 clear hK ho hR hs
 go_enter Tryz.func104, Tryz.ntmps104
 go_upto_region 1 with (fail)
 generalize hW : w.alloc (.cells #[.int .u32 (s.a0 : Nat), .int .u32 (s.a1 : Nat), .int .u32 (s.n0 : Nat), .int .u32 (s.n1 : Nat)] 196) = W at *
 generalize hG : w.heap.size = g at *
 have HG := Lib.hid hG
 clear hW hG
 have HO := Lib.hid ho2
 have HX := Lib.hid hx
 have HW : Hid (∃ W0, W0 = W) := Lib.hid ⟨W, rfl⟩
 have c0 := cell_at (k := 0) hx
 have c1 := cell_at (k := 1) hx
 have c2 := cell_at (k := 2) hx
 have c3 := cell_at (k := 3) hx
 have cl := heap_lt hx
 have m0 := cell_at (k := 0) ho2
 have ml := heap_lt ho2
 simp at c0 c1 c2 c3 m0
 clear hx ho2
 go_wp2_with fail
 refine wp_loop_rounds 3 ?_
 rw [rounds_succ]
 have i0 := index_0 (s.a0 : Int) (s.a1 : Int)
 have i1 := index_1 (s.a0 : Int) (s.a1 : Int)
 go_wp2_with fail
 clear i0
 go_loopw [5, 6, 22] (fun v d k wr => ∃ j : Nat, j ≤ s.n0 ∧ v = .int .u32 (getN R s j : Nat) ∧ d = .int .u32 j ∧ k = .int .u32 j ∧ Below W.heap.size W wr) (fun _ _ k _ => s.n0 - (intOf k).toNat)
 case atStart => exact ⟨0, Nat.zero_le _, rfl, rfl, rfl, Below.refl _ _⟩
 case round =>
  obtain ⟨j, hj, rfl, rfl, rfl, hb⟩ := hrel
  have HBW := Lib.hid hb
  have d2 := (hb.cell (p := ⟨g, 2, none⟩) cl).trans c2
  have dl := Nat.lt_of_lt_of_le cl hb.size
  have e0 := (hb.cell (p := ⟨vb, 0, none⟩) ml).trans m0
  have el := Nat.lt_of_lt_of_le ml hb.size
  have hvl := getN_lt HR.out.isok s j
  have HVL := Lib.hid hvl
  clear hvl hb
  by_cases hlt : j < s.n0
  ·go_wp2_with fail
   refine (read_b (HR2.out.below HBW.out) (at32 s.a0 j) (at32_lt _ _) _ (by unfold at32; omega)).mono ?_
   rintro e w1 ⟨rfl, n1, rfl⟩
   have hby := RS.get_lt HR.out.isok (at32 s.a0 j)
   have hS := Lib.hid (show getN R s (j + 1) = getN R s (j) + R.get (at32 s.a0 j) * 256 ^ (j) by rw [← at_lo s j hlt]; rfl)
   have hO := Lib.hid (or_shift (getN R s (j)) (R.get (at32 s.a0 j)) (j) HVL.out hby (by omega))
   have hB2 := Lib.hid (HBW.out.trans (below_dn (Below.refl _ _) n1))
   clear d2 dl e0 el
   generalize R.get (at32 s.a0 j) = y at *
   generalize getN R s (j) = v0 at *
   generalize wr.drewN n1 = w2 at *
   go_wp2_with fail
   go_roundw
   case rel => exact ⟨j + 1, by omega, by rw [hS.out, ← hO.out], by go_num, by go_num, hB2.out⟩
   case measure => (simp [intOf]) <;> omega
  ·obtain rfl : j = s.n0 := by omega
   clear hlt hj
   go_wp2_with fail
   rw [rounds_succ]
   have d3 := (HBW.out.cell (p := ⟨g, 3, none⟩) cl).trans c3
   clear d2 e0
   go_wp2_with fail
   have HV0 := Lib.hid (HV.out)
   go_loopw [5, 6, 22] (fun v d k w3 => ∃ j : Nat, j ≤ s.n1 ∧ v = .int .u32 (getN R s (s.n0 + j) : Nat) ∧ d = .int .u32 ((s.n0 + j : Nat) : Int) ∧ k = .int .u32 j ∧ Below W.heap.size W w3) (fun _ _ k _ => s.n1 - (intOf k).toNat)
   case atStart => exact ⟨0, Nat.zero_le _, rfl, rfl, rfl, HBW.out⟩
   case round =>
    clear HVL HBW d3 dl el
    obtain ⟨j, hj, rfl, rfl, rfl, hb⟩ := hrel
    rename_i w3
    have HBW := Lib.hid hb
    have d2 := (hb.cell (p := ⟨g, 3, none⟩) cl).trans c3
    have dl := Nat.lt_of_lt_of_le cl hb.size
    have e0 := (hb.cell (p := ⟨vb, 0, none⟩) ml).trans m0
    have el := Nat.lt_of_lt_of_le ml hb.size
    have HVL := Lib.hid (getN_lt HR.out.isok s (s.n0 + j))
    clear hb
    by_cases hlt : j < s.n1
    ·go_wp2_with fail
     refine (read_b (HR2.out.below HBW.out) (at32 s.a1 j) (at32_lt _ _) _ (by unfold at32; omega)).mono ?_
     rintro e w1 ⟨rfl, n1, rfl⟩
     have hby := RS.get_lt HR.out.isok (at32 s.a1 j)
     have hS := Lib.hid (show getN R s (s.n0 + j + 1) = getN R s (s.n0 + j) + R.get (at32 s.a1 j) * 256 ^ (s.n0 + j) by rw [← at_hi s j]; rfl)
     have hO := Lib.hid (or_shift (getN R s (s.n0 + j)) (R.get (at32 s.a1 j)) (s.n0 + j) HVL.out hby (by omega))
     have hB2 := Lib.hid (HBW.out.trans (below_dn (Below.refl _ _) n1))
     clear d2 dl e0 el
     generalize R.get (at32 s.a1 j) = y at *
     generalize hq : getN R s (s.n0 + j) = v0 at *
     clear hq
     generalize wr.drewN n1 = w2 at *
     go_wp2_with fail
     go_roundw
     case rel => exact ⟨j + 1, by omega, by rw [show s.n0 + (j + 1) = s.n0 + j + 1 from rfl, hS.out, ← hO.out] <;> push_cast <;> rfl, by push_cast; go_num, by go_num, hB2.out⟩
     case measure => (simp [intOf]) <;> omega
    ·obtain rfl : j = s.n1 := by omega
     clear hlt hj
     go_wp2_with fail
     rw [rounds_succ]
     go_wp2_with fail
     go_ret
     exact ⟨rfl, by rw [HG.out]; exact HB.out.trans (HBW.out.mono (Nat.le_of_lt cl))⟩
end
end Go.Proofs.YtmpcafdgkbpneaaGreat

/- vmem: put. -/
namespace Go.Proofs.YtmpcafdgkbpneaaGreat
open Go.RowKit Go.MapKept
set_option linter.unusedVariables false

theorem Wide.wrb {R : RS} (h : Wide R) (a v : Nat) : Wide (R.wr a (v % 256)) := (h.wr a (v % 256) (Nat.mod_lt _ (by decide))).1
def putN (R : RS) (s : SpanS) (v : Nat) : Nat → RS
 | 0 => R
 | j + 1 => (putN R s v j).wr (s.at j) (v / 256 ^ j % 256)
theorem write_b {W : World} {b : Nat} {S : Nat → Prop} {R : RS} (H : Ram W b S R) (a v : Nat) (ha : a < 4294967296) (hv : v < 4294967296) (x y : Int) (hx : x = (a : Int)) (hy : y = (v : Int)) :
    Calls Tryz.prog 69 #[.pointer (some ⟨b, 0, .none⟩), .int .u32 x, .int .i64 1, .int .u32 y] W fun e w' => e = .returned (.int .i64 0) ∧ ∃ S', Ram w' b S' (R.wr a (v % 256)) ∧ Moves S S' W w' := by
 rw [hx, hy]
 refine (write_1 H a v ha hv).mono ?_
 rintro e w' ⟨he, S', hR, M⟩
 have : R.write a v 1 = R.wr a (v % 256) := by
  show R.wr (at32 a 0) (v / 256 ^ 0 % 256) = _
  have : at32 a 0 = a := by unfold at32; omega
  rw [this]; simp
 rw [this] at hR
 exact ⟨he, S', hR, M⟩
def spanCells (s : SpanS) : Array Value := #[.int .u32 (s.a0 : Nat), .int .u32 (s.a1 : Nat), .int .u32 (s.n0 : Nat), .int .u32 (s.n1 : Nat)]
def PutAt (w wr : World) (t rb : Nat) (places : Pl) (n : Nat) (G : Nat → Prop) (R1 : RS) (g : Nat) (s : SpanS) : Prop :=
 ∃ G', Kq wr t rb places n G' R1 ∧ Moves G G' w wr ∧ wr.heap[g]? = some (.cells (spanCells s) 196) ∧ ¬ G' g
theorem PutAt.box {w wr : World} {t rb : Nat} {places : Pl} {n : Nat} {G : Nat → Prop} {R1 : RS} {g : Nat} {s : SpanS} (h : PutAt w wr t rb places n G R1 g s) :
    wr.cell? ⟨g, 2, none⟩ = some (.int .u32 (s.n0 : Nat)) ∧ wr.cell? ⟨g, 3, none⟩ = some (.int .u32 (s.n1 : Nat)) ∧ g < wr.heap.size := by
 obtain ⟨G', _, _, hx, _⟩ := h
 exact ⟨by rw [cell_at hx]; rfl, by rw [cell_at hx]; rfl, heap_lt hx⟩
theorem PutAt.obj {w wr : World} {t rb : Nat} {places : Pl} {n : Nat} {G : Nat → Prop} {R1 : RS} {g : Nat} {s : SpanS} (h : PutAt w wr t rb places n G R1 g s) {vb : Nat} {o : Value} {p : Value} (ho : w.heap[vb]? = some (.cells #[o, p] 89)) (hn : ¬ G vb) : wr.cell? ⟨vb, 0, none⟩ = some o ∧ vb < wr.heap.size := by
 obtain ⟨G', _, M, _, _⟩ := h
 have e := (M.1.block vb (heap_lt ho) hn).trans ho
 exact ⟨by rw [cell_at e]; rfl, heap_lt e⟩
theorem PutAt.write {w wr : World} {t rb : Nat} {places : Pl} {n : Nat} {G : Nat → Prop} {R1 : RS} {g : Nat} {s : SpanS} (h : PutAt w wr t rb places n G R1 g s) (a v : Nat) (ha : a < 4294967296) (hv : v < 4294967296) (x y : Int) (hx : x = (a : Int)) (hy : y = (v : Int)) :
    Calls Tryz.prog 69 #[.pointer (some ⟨rb, 0, .none⟩), .int .u32 x, .int .i64 1, .int .u32 y] wr fun e w' => e = .returned (.int .i64 0) ∧ PutAt w w' t rb places n G (R1.wr a (v % 256)) g s := by
 obtain ⟨G', hK, M, hbx, hg⟩ := h
 have hW := hK.wide
 obtain ⟨S, hR, hS, f⟩ := hK.ram
 refine (write_b hR a v ha hv x y hx hy).mono ?_
 rintro e w' ⟨he, S', hR', M'⟩
 obtain ⟨G2, hK2, M2⟩ := f hR' M' (hW.wrb a v)
 refine ⟨he, G2, hK2, M.trans M2, (M2.1.block g (heap_lt hbx) hg).trans hbx, fun h => ?_⟩
 rcases M2.2 g h with h | h
 ·exact hg h
 ·have := heap_lt hbx; omega
section
variable {w : World} {vb : Nat} {places : Pl} {n : Nat} {H : Nat → Prop} {R : RS} {s : SpanS}
theorem put_span (hV : Vm w vb places n H R) (hs : s.ok) (v : Nat) (hv : v < 4294967296) :
    Calls Tryz.prog 139 #[.pointer (some ⟨vb, 0, none⟩), .agg #[.int .u32 (s.a0 : Nat), .int .u32 (s.a1 : Nat), .int .u32 (s.n0 : Nat), .int .u32 (s.n1 : Nat)], .int .u32 (v : Nat)] w fun e w' => e = .returned (.tuple #[]) ∧ ∃ H', Vm w' vb places n H' (putN R s v (s.n0 + s.n1)) ∧ Moves H H' w w' := by
 obtain ⟨t, rb, G, ho, hK, hn, hH⟩ := hV
 have h0 := hs.a0
 have h1 := hs.a1
 have hn4 := hs.n
 have HO := Lib.hid ho
 have HN := Lib.hid hn
 have HHH := Lib.hid hH
 have HP : Hid (PutAt w (w.alloc (.cells #[.int .u32 (s.a0 : Nat), .int .u32 (s.a1 : Nat), .int .u32 (s.n0 : Nat), .int .u32 (s.n1 : Nat)] 196)) t rb places n G R w.heap.size s) :=
  Lib.hid ⟨G, hK.of_heap fun k hk => Below.heap_alloc _ _ _ (hK.lt k hk), Moves.ofBelow ((Below.refl w.heap.size w).alloc (Nat.le_refl _) _), heap_new w _, fun h => by have := hK.lt _ h; omega⟩
 have hx := heap_new w (.cells #[.int .u32 (s.a0 : Nat), .int .u32 (s.a1 : Nat), .int .u32 (s.n0 : Nat), .int .u32 (s.n1 : Nat)] 196)
 have i0 := index_0 (s.a0 : Int) (s.a1 : Int)
 have i1 := index_1 (s.a0 : Int) (s.a1 : Int)
 clear hK ho hs hn hH
 go_enter Tryz.func139, Tryz.ntmps139
 go_upto_region 1 with (fail)
 generalize w.alloc (.cells #[.int .u32 (s.a0 : Nat), .int .u32 (s.a1 : Nat), .int .u32 (s.n0 : Nat), .int .u32 (s.n1 : Nat)] 196) = W at *
 generalize w.heap.size = g at *
 have c0 := cell_at (k := 0) hx
 have c1 := cell_at (k := 1) hx
 have c2 := cell_at (k := 2) hx
 have cl := heap_lt hx
 simp at c0 c1 c2
 clear hx
 go_wp2_with fail
 refine wp_loop_rounds 3 ?_
 rw [rounds_succ]
 go_wp2_with fail
 clear i0 c0 c1 c2 cl
 go_loopw [2, 19] (fun x k w3 => ∃ j : Nat, j ≤ s.n0 ∧ x = .int .u32 ((v / 256 ^ (j) : Nat) : Int) ∧ k = .int .u32 j ∧ PutAt w w3 t rb places n G (putN R s v (j)) g s) (fun _ k _ => s.n0 - (intOf k).toNat)
 case atStart => exact ⟨0, Nat.zero_le _, by simp, rfl, HP.out⟩
 case round =>
  clear HP
  obtain ⟨j, hj, rfl, rfl, hp⟩ := hrel
  have HPP := Lib.hid hp
  have d2 := hp.box.1
  have dl := hp.box.2.2
  obtain ⟨e0, el⟩ := hp.obj HO.out HN.out
  have hvl : v / 256 ^ (j) < 4294967296 := Nat.lt_of_le_of_lt (Nat.div_le_self _ _) hv
  clear hp
  by_cases hlt : j < s.n0
  ·go_wp2_with fail
   refine (HPP.out.write (at32 s.a0 j) (v / 256 ^ (j)) (at32_lt _ _) hvl _ _ (by unfold at32; omega) rfl).mono ?_
   rintro e w2 ⟨rfl, hp2⟩
   have hS : (putN R s v (j)).wr (at32 s.a0 j) (v / 256 ^ (j) % 256) = putN R s v (j + 1) := by rw [← at_lo s j hlt]; rfl
   rw [hS] at hp2
   have HP2 := Lib.hid hp2
   have hD : v / 256 ^ (j) / 256 = v / 256 ^ (j + 1) := by rw [Nat.div_div_eq_div_mul, Nat.pow_succ]
   have HD := Lib.hid hD
   clear d2 dl e0 el hp2 hS hD
   generalize v / 256 ^ (j) = x0 at *
   go_wp2_with fail
   go_roundw
   case rel => exact ⟨j + 1, by omega, by rw [← HD.out]; go_num, by go_num, HP2.out⟩
   case measure => (simp [intOf]) <;> omega
  ·obtain rfl : j = s.n0 := by omega
   clear hlt hj
   go_wp2_with fail
   rw [rounds_succ]
   have d3 := HPP.out.box.2.1
   clear d2 e0
   go_wp2_with fail
   go_loopw [2, 19] (fun x k w3 => ∃ j : Nat, j ≤ s.n1 ∧ x = .int .u32 ((v / 256 ^ (s.n0 + j) : Nat) : Int) ∧ k = .int .u32 j ∧ PutAt w w3 t rb places n G (putN R s v (s.n0 + j)) g s) (fun _ k _ => s.n1 - (intOf k).toNat)
   case atStart => exact ⟨0, Nat.zero_le _, rfl, rfl, HPP.out⟩
   case round =>
    clear HPP d3 dl el
    obtain ⟨j, hj, rfl, rfl, hp⟩ := hrel
    rename_i w3
    have HPP := Lib.hid hp
    have d2 := hp.box.2.1
    have dl := hp.box.2.2
    obtain ⟨e0, el⟩ := hp.obj HO.out HN.out
    have hvl : v / 256 ^ (s.n0 + j) < 4294967296 := Nat.lt_of_le_of_lt (Nat.div_le_self _ _) hv
    clear hp
    by_cases hlt : j < s.n1
    ·go_wp2_with fail
     refine (HPP.out.write (at32 s.a1 j) (v / 256 ^ (s.n0 + j)) (at32_lt _ _) hvl _ _ (by unfold at32; omega) rfl).mono ?_
     rintro e w2 ⟨rfl, hp2⟩
     have hS : (putN R s v (s.n0 + j)).wr (at32 s.a1 j) (v / 256 ^ (s.n0 + j) % 256) = putN R s v (s.n0 + j + 1) := by rw [← at_hi s j]; rfl
     rw [hS] at hp2
     have HP2 := Lib.hid hp2
     have hD : v / 256 ^ (s.n0 + j) / 256 = v / 256 ^ (s.n0 + j + 1) := by rw [Nat.div_div_eq_div_mul, Nat.pow_succ]
     have HD := Lib.hid hD
     clear d2 dl e0 el hp2 hS hD
     generalize v / 256 ^ (s.n0 + j) = x0 at *
     go_wp2_with fail
     go_roundw
     case rel => exact ⟨j + 1, by omega, by rw [show s.n0 + (j + 1) = s.n0 + j + 1 from rfl, ← HD.out]; go_num, by go_num, HP2.out⟩
     case measure => (simp [intOf]) <;> omega
    ·obtain rfl : j = s.n1 := by omega
     clear hlt hj
     go_wp2_with fail
     rw [rounds_succ]
     go_wp2_with fail
     go_end0
     obtain ⟨G', hK', M', -, -⟩ := HPP.out
     obtain ⟨hV', hM'⟩ := Vm.lift HO.out HN.out HHH.out hK' M'
     exact ⟨rfl, _, hV', hM'⟩
end
end Go.Proofs.YtmpcafdgkbpneaaGreat

