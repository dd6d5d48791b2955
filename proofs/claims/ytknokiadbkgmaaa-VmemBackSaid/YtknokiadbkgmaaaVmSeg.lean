/- VmH, VmI, VmJ, together. -/
import Derived.Test.YtknokiadbkgmaaaVmG
import Derived.Test.YtknokiadbkgmaaaSegW3
import Derived.StillTailTactics
/- vmem: segment. -/
namespace Go.Proofs.Ytknokiadbkgmaaa
open Go.RowKit Go.MapKept
set_option linter.unusedVariables false
attribute [local go_sem ↓] Go.wp_at_zero Go.wp_at_succ

/-- What is found: places, or a fault. -/
inductive SegGot where
  | ok (s : SpanS)
  | no (vec cd : Int) (at_ : Nat)
def SegGot.of : PgR → SegGot
  | .ok s => .ok s
  | .fault cd a => .no 14 cd a
def SegR.reach (s : SegR) (off size : Nat) (wr : Bool) : Bool := Go.Proofs.Ytknokiadbkgmaaa.reach s.lim s.typ s.sys s.pre s.big off size wr
def isSize (size : Int) : Prop := size = 1 ∨ size = 2 ∨ size = 4
instance (size : Int) : Decidable (isSize size) := inferInstanceAs (Decidable (_ ∨ _ ∨ _))
/-- Behind the size: where a segment's bytes lie. -/
def sg2 (R : RS) (C : CpuS) (seg : Nat) (off size : Nat) (wr : Bool) : SegGot × RS :=
  if (C.seg seg).nul = false ∧ (C.seg seg).reach off size wr = true then (SegGot.of (pg R C (((C.seg seg).base + off) % 4294967296) size wr C.user).1, (pg R C (((C.seg seg).base + off) % 4294967296) size wr C.user).2)
  else (.no (if seg = 2 then 12 else 13) 0 0, R)
def sg (R : RS) (C : CpuS) (seg : Int) (off : Nat) (size : Int) (wr : Bool) : SegGot × RS :=
  if isSize size ∧ 0 ≤ seg ∧ seg ≤ 5 then sg2 R C seg.toNat off size.toNat wr else (.no 13 0 0, R)
/-- What is got, as an ending. -/
def GotEnd (w : World) (vb : Nat) (places : Pl) (n : Nat) (H : Nat → Prop) (g : SegGot × RS) (e : Ending) (w' : World) : Prop :=
  (∀ s, g.1 = .ok s → e = .returned s.val) ∧ (∀ v cd a, g.1 = .no v cd a → e = gaveUp v cd a) ∧ ∃ H', Vm w' vb places n H' g.2 ∧ Moves H H' w w'
section
variable {w w' w2 : World} {vb cb : Nat} {places : Pl} {n : Nat} {H H' : Nat → Prop} {R R' : RS} {C : CpuS}
theorem Vm.keeps {g : Nat} (hV : Vm w vb places n H R) (hk : Keeps (· = g) w w') (hg : ¬ H g) : Vm w' vb places n H R :=
  hV.of_heap fun k hk2 => hk.block k (hV.lt k hk2) (fun e => hg (by rw [← e]; exact hk2))
theorem Moves.setNew {S S' : Nat → Prop} {g : Nat} (M : Moves S S' w w') (hk : Keeps (· = g) w' w2) (hg : w.heap.size ≤ g) : Moves S S' w w2 :=
  ⟨M.1.andThen hk fun i hi e => by omega, fun k h => M.2 k h⟩
theorem pages_ok (hV : Vm w vb places n H R) (hC : CpuAt w cb C) (hcb : ¬ H cb) (lin size : Nat) (hl : lin < 4294967296) (hs : size = 1 ∨ size = 2 ∨ size = 4) (wr us wp0 : Bool) (hn : (n + 2) * 12 ≤ 140737488355328) (x y : Int) (hx : x = (lin : Int)) (hy : y = (size : Int)) {s : SpanS} (h : (pg R C lin size wr us).1 = .ok s) :
    Calls Try.prog 36 #[.pointer (some ⟨vb, 0, none⟩), .pointer (some ⟨cb, 0, none⟩), .int .u32 x, .int .i64 y, .agg #[.bool wr, .bool us, .bool wp0]] w fun e w' =>
      e = .returned (.agg #[.int .u32 (s.a0 : Nat), .int .u32 (s.a1 : Nat), .int .u32 (s.n0 : Nat), .int .u32 (s.n1 : Nat)]) ∧ ∃ H', Vm w' vb places (n + 2) H' (pg R C lin size wr us).2 ∧ Moves H H' w w' :=
  (pages_any hV hC hcb lin size hl (by omega) (by omega) wr us wp0 hn x y hx hy).mono fun e w' ⟨h1, _, h3⟩ => ⟨h1 s h, h3⟩
theorem pages_no (hV : Vm w vb places n H R) (hC : CpuAt w cb C) (hcb : ¬ H cb) (lin size : Nat) (hl : lin < 4294967296) (hs : size = 1 ∨ size = 2 ∨ size = 4) (wr us wp0 : Bool) (hn : (n + 2) * 12 ≤ 140737488355328) (x y : Int) (hx : x = (lin : Int)) (hy : y = (size : Int)) {cd : Int} {a : Nat} (h : (pg R C lin size wr us).1 = .fault cd a) :
    Calls Try.prog 36 #[.pointer (some ⟨vb, 0, none⟩), .pointer (some ⟨cb, 0, none⟩), .int .u32 x, .int .i64 y, .agg #[.bool wr, .bool us, .bool wp0]] w fun e w' =>
      e = .panicked [{ v := faultV 14 cd a, recovered := false }] ∧ ∃ H', Vm w' vb places (n + 2) H' (pg R C lin size wr us).2 ∧ Moves H H' w w' :=
  (pages_any hV hC hcb lin size hl (by omega) (by omega) wr us wp0 hn x y hx hy).mono fun e w' ⟨_, h2, h3⟩ => ⟨h2 cd a h, h3⟩
theorem reach_seg (s : SegR) (hok : s.ok) (off size : Nat) (ho : off < 4294967296) (hs : size = 1 ∨ size = 2 ∨ size = 4) (wr : Bool) (w : World) :
    Calls Try.prog 46 #[.agg #[.int .u32 (s.base : Nat), .int .u32 (s.lim : Nat), .int .i64 s.typ, .bool s.sys, .int .i64 s.dpl, .bool s.pre, .bool s.big], .int .u32 (off : Nat), .int .i64 (size : Nat), .bool wr] w fun e w' =>
      e = .returned (.bool (s.reach off size wr)) ∧ Below w.heap.size w w' := by
  have hb := hok.base
  have hl := hok.lim
  rcases hs with rfl | rfl | rfl
  · exact reach_one _ _ _ _ _ _ _ _ _ _ (by omega) (by omega) (by omega) (by omega)
  · exact reach_two _ _ _ _ _ _ _ _ _ _ (by omega) (by omega) (by omega) (by omega)
  · exact reach_four _ _ _ _ _ _ _ _ _ _ (by omega) (by omega) (by omega) (by omega)
theorem got_bad (hV : Vm w vb places n H R) {n' : Nat} (hn : n ≤ n') (vec : Int) (hb : Below w.heap.size w w') : GotEnd w vb places n' H (.no vec 0 0, R) (gaveUp vec 0 0) w' :=
  ⟨(fun s h => by cases h), (fun v cd a h => by cases h; rfl), H, (hV.more hn).below hb, Moves.ofBelow hb⟩
set_option maxHeartbeats 1000000 in
theorem segment_bad (hV : Vm w vb places n H R) (seg : Int) (off : Nat) (size : Int) (wr : Bool) (h : ¬ isSize size) :
    Calls Try.prog 33 #[.pointer (some ⟨vb, 0, none⟩), .pointer (some ⟨cb, 0, none⟩), .int .i64 seg, .int .u32 (off : Nat), .int .i64 size, .bool wr] w (GotEnd w vb places (n + 2) H (sg R C seg off size wr)) := by
  have e : sg R C seg off size wr = (.no 13 0 0, R) := by unfold sg; rw [if_neg (fun hh => h hh.1)]
  rw [e]
  have HV := Lib.hid hV
  have c := Lib.hid (fun W => sized_bad (some ⟨vb, 0, none⟩) (some ⟨cb, 0, none⟩) size (fun e => h (.inl e)) (fun e => h (.inr (.inl e))) (fun e => h (.inr (.inr e))) W)
  clear hV h e
  go_enter Try.func33, Try.ntmps33
  go_wp2_with (go_at_call 34; refine (c.out _).mono ?_; rintro e w' ⟨he, rfl⟩; unfold gaveUp faultV at he; subst he)
  exact ⟨rfl, got_bad HV.out (by omega) 13 ((Below.refl _ _).alloc (Nat.le_refl _) _)⟩
set_option maxHeartbeats 1000000 in
theorem segment_out (hV : Vm w vb places n H R) (seg : Int) (off : Nat) (size : Int) (wr : Bool) (h : isSize size) (h2 : ¬ (0 ≤ seg ∧ seg ≤ 5)) :
    Calls Try.prog 33 #[.pointer (some ⟨vb, 0, none⟩), .pointer (some ⟨cb, 0, none⟩), .int .i64 seg, .int .u32 (off : Nat), .int .i64 size, .bool wr] w (GotEnd w vb places (n + 2) H (sg R C seg off size wr)) := by
  have e : sg R C seg off size wr = (.no 13 0 0, R) := by unfold sg; rw [if_neg (fun hh => h2 hh.2)]
  rw [e]
  have HV := Lib.hid hV
  have c := Lib.hid (fun W => sized_ok vb cb size h W)
  have hs : seg < 0 ∨ (0 ≤ seg ∧ 5 < seg) := by omega
  clear hV h e h2
  rcases hs with hs | ⟨hs0, hs⟩
  all_goals
    go_enter Try.func33, Try.ntmps33
    go_wp2_with (first | (go_at_call 34; refine (c.out _).mono ?_; rintro e w' ⟨rfl, rfl⟩) | (go_at_call 35; refine (general_any _ _).mono ?_; rintro e w' ⟨he, rfl⟩; unfold gaveUp faultV at he; subst he))
    exact ⟨rfl, got_bad HV.out (by omega) 13 ((Below.refl _ _).alloc (Nat.le_refl _) _)⟩
end
end Go.Proofs.Ytknokiadbkgmaaa

/- vmem: segment, behind the size. -/
namespace Go.Proofs.Ytknokiadbkgmaaa
open Go.RowKit Go.MapKept
set_option linter.unusedVariables false
attribute [local go_sem ↓] Go.wp_at_zero Go.wp_at_succ

section
variable {w w' w2 : World} {vb cb : Nat} {places : Pl} {n : Nat} {H H' : Nat → Prop} {R R' : RS} {C : CpuS}
theorem sg_in {i off size : Nat} {wr : Bool} (hs : size = 1 ∨ size = 2 ∨ size = 4) (hi : i < 6) : sg R C (i : Int) off (size : Int) wr = sg2 R C i off size wr := by
  unfold sg
  have h : isSize (size : Int) ∧ 0 ≤ (i : Int) ∧ (i : Int) ≤ 5 := ⟨by rcases hs with rfl | rfl | rfl <;> unfold isSize <;> simp, by omega, by omega⟩
  rw [if_pos h]
  rfl
theorem sg2_no {i off size : Nat} {wr : Bool} (h : ¬ ((C.seg i).nul = false ∧ (C.seg i).reach off size wr = true)) : sg2 R C i off size wr = (.no (if i = 2 then 12 else 13) 0 0, R) := by unfold sg2; rw [if_neg h]
theorem sg2_yes {i off size : Nat} {wr : Bool} (h : (C.seg i).nul = false ∧ (C.seg i).reach off size wr = true) : sg2 R C i off size wr = (SegGot.of (pg R C (((C.seg i).base + off) % 4294967296) size wr C.user).1, (pg R C (((C.seg i).base + off) % 4294967296) size wr C.user).2) := by unfold sg2; rw [if_pos h]
/-- The cells of a segment register that the walk loads. -/
theorem CpuAt.seg7 {b : Nat} (h : CpuAt w b C) (i : Nat) (hi : i < 6) :
    w.cell? ⟨b, 10 + i * 9 + 1, none⟩ = some (.bool (C.seg i).nul) ∧ w.cell? ⟨b, 10 + i * 9 + 2, none⟩ = some (.int .u32 ((C.seg i).base : Nat)) ∧ w.cell? ⟨b, 10 + i * 9 + 2 + 1, none⟩ = some (.int .u32 ((C.seg i).lim : Nat)) ∧
      w.cell? ⟨b, 10 + i * 9 + 2 + 2, none⟩ = some (.int .i64 (C.seg i).typ) ∧ w.cell? ⟨b, 10 + i * 9 + 2 + 3, none⟩ = some (.bool (C.seg i).sys) ∧ w.cell? ⟨b, 10 + i * 9 + 2 + 4, none⟩ = some (.int .i64 (C.seg i).dpl) ∧ w.cell? ⟨b, 10 + i * 9 + 2 + 5, none⟩ = some (.bool (C.seg i).pre) ∧ w.cell? ⟨b, 10 + i * 9 + 2 + 6, none⟩ = some (.bool (C.seg i).big) ∧ b < w.heap.size := by
  obtain ⟨-, h1, h2, h3, h4, h5, h6, h7, h8⟩ := h.segAt i hi
  exact ⟨h1, h2, h3, h4, h5, h6, h7, h8, h.lt⟩
set_option maxRecDepth 20000 in
set_option maxHeartbeats 2000000 in
theorem segment_no (hV : Vm w vb places n H R) (hC : CpuAt w cb C) (i off size : Nat) (hi : i < 6) (ho : off < 4294967296) (hs : size = 1 ∨ size = 2 ∨ size = 4) (wr : Bool) (h : ¬ ((C.seg i).nul = false ∧ (C.seg i).reach off size wr = true)) :
    Calls Try.prog 33 #[.pointer (some ⟨vb, 0, none⟩), .pointer (some ⟨cb, 0, none⟩), .int .i64 (i : Nat), .int .u32 (off : Nat), .int .i64 (size : Nat), .bool wr] w (GotEnd w vb places (n + 2) H (sg R C (i : Int) off (size : Int) wr)) := by
  rw [sg_in hs hi, sg2_no h]
  have HV := Lib.hid hV
  have c := Lib.hid (fun W => sized_ok vb cb (size : Int) (by rcases hs with rfl | rfl | rfl <;> simp) W)
  have cr := Lib.hid (fun W => reach_seg (C.seg i) (hC.1.seg i) off size ho hs wr W)
  obtain ⟨k1, k2, k3, k4, k5, k6, k7, k8, kl⟩ := hC.seg7 i hi
  cases hn : (C.seg i).nul with
  | true =>
    have HN := Lib.hid hn
    rw [hn] at k1
    clear hV h hC hn
    by_cases h2 : i = 2
    · have H2 := Lib.hid (show (if i = 2 then (12 : Int) else 13) = 12 from if_pos h2)
      have e2 : ((i : Int) == 2) = true := by simp; omega
      rw [H2.out]
      clear h2
      go_enter Try.func33, Try.ntmps33
      go_wp2_with (first | (go_at_call 34; refine (c.out _).mono ?_; rintro e w' ⟨rfl, rfl⟩) | (go_at_call 35; refine (general_any _ _).mono ?_; rintro e w' ⟨he, rfl⟩; unfold gaveUp faultV at he; subst he))
      exact ⟨rfl, got_bad HV.out (by omega) 12 ((Below.refl _ _).alloc (Nat.le_refl _) _)⟩
    · have H2 := Lib.hid (show (if i = 2 then (12 : Int) else 13) = 13 from if_neg h2)
      have e2 : ((i : Int) == 2) = false := by simp; omega
      rw [H2.out]
      clear h2
      go_enter Try.func33, Try.ntmps33
      go_wp2_with (first | (go_at_call 34; refine (c.out _).mono ?_; rintro e w' ⟨rfl, rfl⟩) | (go_at_call 35; refine (general_any _ _).mono ?_; rintro e w' ⟨he, rfl⟩; unfold gaveUp faultV at he; subst he))
      exact ⟨rfl, got_bad HV.out (by omega) 13 ((Below.refl _ _).alloc (Nat.le_refl _) _)⟩
  | false =>
    have HR : Hid ((C.seg i).reach off size wr = false) := Lib.hid (by cases hh : (C.seg i).reach off size wr with | true => exact (h ⟨hn, hh⟩).elim | false => rfl)
    rw [hn] at k1
    clear hV h hC hn
    by_cases h2 : i = 2
    · have H2 := Lib.hid (show (if i = 2 then (12 : Int) else 13) = 12 from if_pos h2)
      have e2 : ((i : Int) == 2) = true := by simp; omega
      rw [H2.out]
      clear h2
      go_enter Try.func33, Try.ntmps33
      go_wp2_with (first | (go_at_call 34; refine (c.out _).mono ?_; rintro e w' ⟨rfl, rfl⟩) | (go_at_call 46; refine (cr.out _).mono ?_; rintro e w2 ⟨he, hb2⟩; rw [HR.out] at he; subst he; have HB2 := Lib.hid hb2; clear hb2) | (go_at_call 35; refine (general_any _ _).mono ?_; rintro e w' ⟨he, rfl⟩; unfold gaveUp faultV at he; subst he))
      exact ⟨rfl, got_bad HV.out (by omega) 12 (((Below.refl _ _).alloc (Nat.le_refl _) _).trans (HB2.out.mono (by simp)))⟩
    · have H2 := Lib.hid (show (if i = 2 then (12 : Int) else 13) = 13 from if_neg h2)
      have e2 : ((i : Int) == 2) = false := by simp; omega
      rw [H2.out]
      clear h2
      go_enter Try.func33, Try.ntmps33
      go_wp2_with (first | (go_at_call 34; refine (c.out _).mono ?_; rintro e w' ⟨rfl, rfl⟩) | (go_at_call 46; refine (cr.out _).mono ?_; rintro e w2 ⟨he, hb2⟩; rw [HR.out] at he; subst he; have HB2 := Lib.hid hb2; clear hb2) | (go_at_call 35; refine (general_any _ _).mono ?_; rintro e w' ⟨he, rfl⟩; unfold gaveUp faultV at he; subst he))
      exact ⟨rfl, got_bad HV.out (by omega) 13 (((Below.refl _ _).alloc (Nat.le_refl _) _).trans (HB2.out.mono (by simp)))⟩
end
end Go.Proofs.Ytknokiadbkgmaaa

/- vmem: segment, let. -/
namespace Go.Proofs.Ytknokiadbkgmaaa
open Go.RowKit Go.MapKept
set_option linter.unusedVariables false
attribute [local go_sem ↓] Go.wp_at_zero Go.wp_at_succ

section
variable {w w' w2 : World} {vb cb : Nat} {places : Pl} {n : Nat} {H H' : Nat → Prop} {R R' : RS} {C : CpuS}
theorem wrap_u32 (a b : Nat) : IntKind.u32.wrap ((a : Int) + (b : Int)) = (((a + b) % 4294967296 : Nat) : Int) := by
  rw [IntKind.wrap_u32]; omega
theorem cell_sets4_ne (w : World) {b c k : Nat} (h : c ≠ b) (v0 v1 v2 v3 : Value) : (sets4 w b v0 v1 v2 v3).cell? ⟨c, k, none⟩ = w.cell? ⟨c, k, none⟩ := by
  unfold sets4
  refine World.cell?_of_block (a := ⟨c, k, none⟩) ?_
  rw [heap_set_ne _ _ _ _ _ h, heap_set_ne _ _ _ _ _ h, heap_set_ne _ _ _ _ _ h, heap_set_ne _ _ _ _ _ h]
/-- Behind the places: the result is laid into the new block g. -/
theorem got_laid {g : Nat} (hV : Vm w' vb places n H' R') (M : Moves H H' w w') (hg : w.heap.size ≤ g) (hn : ¬ H' g) (v0 v1 v2 v3 : Value) : ∃ H'', Vm (sets4 w' g v0 v1 v2 v3) vb places n H'' R' ∧ Moves H H'' w (sets4 w' g v0 v1 v2 v3) :=
  ⟨H', hV.keeps (keeps_sets4 w' g v0 v1 v2 v3) hn, M.setNew (keeps_sets4 w' g v0 v1 v2 v3) hg⟩
set_option maxRecDepth 20000 in
set_option maxHeartbeats 2000000 in
theorem segment_ok (hV : Vm w vb places n H R) (hC : CpuAt w cb C) (hcb : ¬ H cb) (i off size : Nat) (hi : i < 6) (ho : off < 4294967296) (hs : size = 1 ∨ size = 2 ∨ size = 4) (wr : Bool) (hnb : (n + 2) * 12 ≤ 140737488355328) (h : (C.seg i).nul = false ∧ (C.seg i).reach off size wr = true) {s : SpanS} (hp : (pg R C (((C.seg i).base + off) % 4294967296) size wr C.user).1 = .ok s) :
    Calls Try.prog 33 #[.pointer (some ⟨vb, 0, none⟩), .pointer (some ⟨cb, 0, none⟩), .int .i64 (i : Nat), .int .u32 (off : Nat), .int .i64 (size : Nat), .bool wr] w (GotEnd w vb places (n + 2) H (sg R C (i : Int) off (size : Int) wr)) := by
  rw [sg_in hs hi, sg2_yes h]
  have HV := Lib.hid hV
  have HC := Lib.hid hC
  have HCB := Lib.hid hcb
  have HN := Lib.hid hnb
  have HS := Lib.hid hs
  have HP := Lib.hid hp
  have HI := Lib.hid hi
  have c := Lib.hid (fun W => sized_ok vb cb (size : Int) (by rcases hs with rfl | rfl | rfl <;> simp) W)
  have cr := Lib.hid (fun W => (reach_seg (C.seg i) (hC.1.seg i) off size ho hs wr W).mono fun e w' ⟨he, hb⟩ => (⟨by rw [he, h.2], hb⟩ : e = Ending.returned (.bool true) ∧ Below W.heap.size W w'))
  obtain ⟨k1, k2, k3, k4, k5, k6, k7, k8, kl⟩ := hC.seg7 i hi
  rw [h.1] at k1
  have hbase := (hC.1.seg i).base
  have HW : Hid (IntKind.u32.wrap (((C.seg i).base : Int) + (off : Int)) = ((((C.seg i).base + off) % 4294967296 : Nat) : Int)) := Lib.hid (wrap_u32 _ _)
  clear hV h hC hs hp hcb hnb
  go_enter Try.func33, Try.ntmps33
  go_upto_region 10 with (first | (go_at_call 34; refine (c.out _).mono ?_; rintro e w' ⟨rfl, rfl⟩) | (go_at_call 46; refine (cr.out _).mono ?_; rintro e w2 ⟨rfl, hb2⟩; have HB2 := Lib.hid hb2; clear hb2 k1 k2 k3 k4 k5 k6 k7 k8))
  have HB : Hid (Below w.heap.size w w2) := Lib.hid (((Below.refl w.heap.size w).alloc (Nat.le_refl _) (.cells #[.int .u32 0, .int .u32 0, .int .u32 0, .int .u32 0] 89)).trans (HB2.out.mono (by simp)))
  have HZ := Lib.hid (heap_below HB2.out (heap_new w (.cells #[.int .u32 0, .int .u32 0, .int .u32 0, .int .u32 0] 89)))
  clear HB2
  have HCd : Hid (CpuAt w2.drew cb C) := Lib.hid (HC.out.below HB.out.drew)
  have HVd : Hid (Vm w2.drew vb places n H R) := Lib.hid (HV.out.below HB.out.drew)
  have cp := Lib.hid (pages_ok HVd.out HCd.out HCB.out (((C.seg i).base + off) % 4294967296) size (Nat.mod_lt _ (by decide)) HS.out wr C.user false HN.out (IntKind.u32.wrap (((C.seg i).base : Int) + (off : Int))) (size : Int) HW.out rfl HP.out)
  have cu := Lib.hid (user_any HCd.out)
  obtain ⟨-, q2, -, -, -, -, -, -, ql⟩ := HCd.out.seg7 i HI.out
  have j2 : w2.cell? ⟨cb, 10 + i * 9 + 2, none⟩ = some (.int .u32 ((C.seg i).base : Nat)) := q2
  have HKL := Lib.hid kl
  clear q2 ql kl
  go_region_held3 (fun w' => w'.cell? ⟨cb, 10 + i * 9 + 2, none⟩ = some (.int .u32 ((C.seg i).base : Nat)))
    (first | go_keep | exact (cell_sets4_ne W' (Nat.ne_of_lt HKL.out) _ _ _ _).trans q3)
    (first
    | (go_at_call 37; refine (cu.out).mono ?_; rintro e W' ⟨rfl, rfl⟩)
    | (go_at_call 36; refine (cp.out).mono ?_; rintro e W' ⟨rfl, H2, hV2, M2⟩; have q3 := ((HCd.out.of_heap (M2.1.block cb HCd.out.lt HCB.out)).seg7 i HI.out).2.1; have hz := (M2.1.block w.heap.size (by have := heap_lt HZ.out; simpa using this) (fun h => by have := HV.out.lt _ h; omega)).trans HZ.out; have z0 := cell_at (k := 0) hz; have z1 := cell_at (k := 1) hz; have z2 := cell_at (k := 2) hz; have z3 := cell_at (k := 3) hz; have zf : ∀ j, W'.frozen? ⟨w.heap.size, j, none⟩ = false := (fun j => free_at hz); have zl := heap_lt hz; simp at z0 z1 z2 z3; have HM := Lib.hid (And.intro hV2 M2); have HZZ := Lib.hid hz; clear hV2 M2 hz))
  all_goals
    have hl2 : w.heap.size < w2.heap.size := heap_lt HZ.out
    have hM0 : Moves H H w w2.drew := Moves.ofBelow HB.out.drew
    have HF := Lib.hid (got_laid HM.out.1 (hM0.trans HM.out.2) (Nat.le_refl _) (fun h => by
      rcases HM.out.2.2 _ h with h | h
      · have := HV.out.lt _ h; omega
      · have h' : w2.heap.size ≤ w.heap.size := h
        omega) (.int .u32 (s.a0 : Nat)) (.int .u32 (s.a1 : Nat)) (.int .u32 (s.n0 : Nat)) (.int .u32 (s.n1 : Nat)))
    have HS4 := Lib.hid (cell_sets4 HZZ.out (.int .u32 (s.a0 : Nat)) (.int .u32 (s.a1 : Nat)) (.int .u32 (s.n0 : Nat)) (.int .u32 (s.n1 : Nat)))
    clear hM0 hl2 z0 z1 z2 z3 zf zl q3 j2
    go_wp2_with fail
    change bodyPost _ _ _ _ _ (sets4 W' w.heap.size (.int .u32 (s.a0 : Nat)) (.int .u32 (s.a1 : Nat)) (.int .u32 (s.n0 : Nat)) (.int .u32 (s.n1 : Nat)))
    obtain ⟨r0, r1, r2, r3⟩ := HS4.out
    clear HS4
    generalize sets4 W' w.heap.size (.int .u32 (s.a0 : Nat)) (.int .u32 (s.a1 : Nat)) (.int .u32 (s.n0 : Nat)) (.int .u32 (s.n1 : Nat)) = Wf at *
    refine bodyPost_ret (v := s.val) (by simp [results, Try.results33, go_sem, r0, r1, r2, r3, SpanS.val]) rfl ?_
    rw [HP.out]
    exact ⟨(fun s' h => by cases h; rfl), (fun v cd a h => by cases h), HF.out⟩
set_option maxRecDepth 20000 in
set_option maxHeartbeats 2000000 in
theorem segment_fault (hV : Vm w vb places n H R) (hC : CpuAt w cb C) (hcb : ¬ H cb) (i off size : Nat) (hi : i < 6) (ho : off < 4294967296) (hs : size = 1 ∨ size = 2 ∨ size = 4) (wr : Bool) (hnb : (n + 2) * 12 ≤ 140737488355328) (h : (C.seg i).nul = false ∧ (C.seg i).reach off size wr = true) {cd : Int} {at_ : Nat} (hp : (pg R C (((C.seg i).base + off) % 4294967296) size wr C.user).1 = .fault cd at_) :
    Calls Try.prog 33 #[.pointer (some ⟨vb, 0, none⟩), .pointer (some ⟨cb, 0, none⟩), .int .i64 (i : Nat), .int .u32 (off : Nat), .int .i64 (size : Nat), .bool wr] w (GotEnd w vb places (n + 2) H (sg R C (i : Int) off (size : Int) wr)) := by
  rw [sg_in hs hi, sg2_yes h]
  have HV := Lib.hid hV
  have HC := Lib.hid hC
  have HCB := Lib.hid hcb
  have HN := Lib.hid hnb
  have HS := Lib.hid hs
  have HP := Lib.hid hp
  have HI := Lib.hid hi
  have c := Lib.hid (fun W => sized_ok vb cb (size : Int) (by rcases hs with rfl | rfl | rfl <;> simp) W)
  have cr := Lib.hid (fun W => (reach_seg (C.seg i) (hC.1.seg i) off size ho hs wr W).mono fun e w' ⟨he, hb⟩ => (⟨by rw [he, h.2], hb⟩ : e = Ending.returned (.bool true) ∧ Below W.heap.size W w'))
  obtain ⟨k1, k2, k3, k4, k5, k6, k7, k8, kl⟩ := hC.seg7 i hi
  rw [h.1] at k1
  have hbase := (hC.1.seg i).base
  have HW : Hid (IntKind.u32.wrap (((C.seg i).base : Int) + (off : Int)) = ((((C.seg i).base + off) % 4294967296 : Nat) : Int)) := Lib.hid (wrap_u32 _ _)
  clear hV h hC hs hp hcb hnb
  go_enter Try.func33, Try.ntmps33
  go_upto_region 10 with (first | (go_at_call 34; refine (c.out _).mono ?_; rintro e w' ⟨rfl, rfl⟩) | (go_at_call 46; refine (cr.out _).mono ?_; rintro e w2 ⟨rfl, hb2⟩; have HB2 := Lib.hid hb2; clear hb2 k1 k2 k3 k4 k5 k6 k7 k8))
  have HB : Hid (Below w.heap.size w w2) := Lib.hid (((Below.refl w.heap.size w).alloc (Nat.le_refl _) (.cells #[.int .u32 0, .int .u32 0, .int .u32 0, .int .u32 0] 89)).trans (HB2.out.mono (by simp)))
  clear HB2
  have HCd : Hid (CpuAt w2.drew cb C) := Lib.hid (HC.out.below HB.out.drew)
  have HVd : Hid (Vm w2.drew vb places n H R) := Lib.hid (HV.out.below HB.out.drew)
  have cp := Lib.hid (pages_no HVd.out HCd.out HCB.out (((C.seg i).base + off) % 4294967296) size (Nat.mod_lt _ (by decide)) HS.out wr C.user false HN.out (IntKind.u32.wrap (((C.seg i).base : Int) + (off : Int))) (size : Int) HW.out rfl HP.out)
  have cu := Lib.hid (user_any HCd.out)
  obtain ⟨-, q2, -, -, -, -, -, -, ql⟩ := HCd.out.seg7 i HI.out
  have j2 : w2.cell? ⟨cb, 10 + i * 9 + 2, none⟩ = some (.int .u32 ((C.seg i).base : Nat)) := q2
  have HKL := Lib.hid kl
  clear q2 ql kl
  have hM0 := Lib.hid (show Moves H H w w2.drew from Moves.ofBelow HB.out.drew)
  rw [HP.out]
  have cu2 : Calls Try.prog 37 #[.pointer (some ⟨cb, 0, none⟩)] w2.drew fun e w' => e = .returned (.bool C.user) ∧ w' = w2.drew := cu.out.mono fun e w' ⟨h1, h2⟩ => ⟨h1, h2.symm⟩
  have CU2 := Lib.hid cu2
  clear cu2
  go_still_tail 14, (by kernel_rfl)
  still_call CU2.out
  repeat still_step
  refine wpStill_nil ?_
  change wpList _ _ _ _ _ w2.drew
  go_wp2_with fail
  refine (cp.out).mono ?_
  rintro e W' ⟨rfl, H2, hV2, M2⟩
  exact ⟨rfl, (fun s h => by cases h), (fun v cd a h => by cases h; rfl), H2, hV2, hM0.out.trans M2⟩
/-- segment. -/
theorem segment_any (hV : Vm w vb places n H R) (hC : CpuAt w cb C) (hcb : ¬ H cb) (seg : Int) (off : Nat) (size : Int) (ho : off < 4294967296) (wr : Bool) (hnb : (n + 2) * 12 ≤ 140737488355328) :
    Calls Try.prog 33 #[.pointer (some ⟨vb, 0, none⟩), .pointer (some ⟨cb, 0, none⟩), .int .i64 seg, .int .u32 (off : Nat), .int .i64 size, .bool wr] w (GotEnd w vb places (n + 2) H (sg R C seg off size wr)) := by
  by_cases h1 : isSize size
  · by_cases h2 : 0 ≤ seg ∧ seg ≤ 5
    · obtain ⟨i, rfl⟩ : ∃ i : Nat, seg = i := ⟨seg.toNat, by omega⟩
      obtain ⟨k, rfl⟩ : ∃ k : Nat, size = k := ⟨size.toNat, by rcases h1 with rfl | rfl | rfl <;> rfl⟩
      have hs : k = 1 ∨ k = 2 ∨ k = 4 := by unfold isSize at h1; omega
      have hi : i < 6 := by omega
      by_cases h : (C.seg i).nul = false ∧ (C.seg i).reach off k wr = true
      · cases hp : (pg R C (((C.seg i).base + off) % 4294967296) k wr C.user).1 with
        | ok s => exact segment_ok hV hC hcb i off k hi ho hs wr hnb h hp
        | fault cd a => exact segment_fault hV hC hcb i off k hi ho hs wr hnb h hp
      · exact segment_no hV hC i off k hi ho hs wr h
    · exact segment_out hV seg off size wr h1 h2
  · exact segment_bad hV seg off size wr h1
end
end Go.Proofs.Ytknokiadbkgmaaa
