/- ram's law RamPlays: one call of a script, asked of both memories. -/
import Derived.Test.YtfdeojefcfnogaaRamQ
namespace Go.Proofs.Ytfdeojefcfnogaa
open Go.RowKit Go.MapKept
set_option linter.unusedVariables false

def goodS (s : Int) : Prop := s = 1 ∨ s = 2 ∨ s = 4
instance (s : Int) : Decidable (goodS s) := by unfold goodS; exact inferInstance
def RS.readV (R : RS) (a : Nat) (s : Int) : Nat := if goodS s then R.read a s.toNat else 0
def sErr (s : Int) : Int := if goodS s then 0 else 2
def RS.writeS (R : RS) (a : Nat) (s : Int) (v : Nat) : RS := if goodS s then R.write a v s.toNat else R
theorem acts_still {f : FuncId} {args : Array Value} {r : Value} {o : Ob} (h : ∀ w, Calls Try.prog f args w fun e w' => e = .returned r ∧ w = w') : Acts f args o r o := fun w A a => by
  refine (h w).mono ?_
  rintro e w1 ⟨rfl, rfl⟩
  exact ⟨rfl, A, a, Moves.refl _ _⟩
theorem goodS_nat {s : Int} (h : goodS s) : s = (s.toNat : Nat) ∧ (s.toNat = 1 ∨ s.toNat = 2 ∨ s.toNat = 4) := by unfold goodS at h; omega
theorem badS {s : Int} (h : ¬ goodS s) : s ≠ 1 ∧ s ≠ 2 ∧ s ≠ 4 := ⟨fun e => h (.inl e), fun e => h (.inr (.inl e)), fun e => h (.inr (.inr e))⟩
section
variable {b : Nat} {R : RS}
theorem m_readA (a : Nat) (ha : a < 4294967296) (s : Int) : Acts 12 #[.pointer (some ⟨b, 0, .none⟩), .int .u32 a, .int .i64 s] (oMem b R) (.tuple #[.int .u32 (R.readV a s : Nat), .int .i64 (sErr s)]) (oMem b R) := by
  unfold RS.readV sErr
  by_cases h : goodS s
  · rw [if_pos h, if_pos h]
    obtain ⟨e, h3⟩ := goodS_nat h
    generalize s.toNat = t at *
    subst e
    exact m_read a ha t h3
  · rw [if_neg h, if_neg h]
    obtain ⟨h1, h2, h4⟩ := badS h
    exact acts_still fun w => read_bad a s h1 h2 h4
theorem m_writeA (a v : Nat) (ha : a < 4294967296) (hv : v < 4294967296) (s : Int) : Acts 10 #[.pointer (some ⟨b, 0, .none⟩), .int .u32 a, .int .i64 s, .int .u32 v] (oMem b R) (.int .i64 (sErr s)) (oMem b (R.writeS a s v)) := by
  unfold RS.writeS sErr
  by_cases h : goodS s
  · rw [if_pos h, if_pos h]
    obtain ⟨e, h3⟩ := goodS_nat h
    generalize s.toNat = t at *
    subst e
    exact m_write a v ha hv t h3
  · rw [if_neg h, if_neg h]
    obtain ⟨h1, h2, h4⟩ := badS h
    exact acts_still fun w => write_bad a s v h1 h2 h4
theorem d_readA (a : Nat) (ha : a < 4294967296) (s : Int) : Acts 28 #[.pointer (some ⟨b, 0, .none⟩), .int .u32 a, .int .i64 s] (oDoc b R) (.tuple #[.int .u32 (R.readV a s : Nat), .int .i64 (sErr s)]) (oDoc b R) := by
  unfold RS.readV sErr
  by_cases h : goodS s
  · rw [if_pos h, if_pos h]
    obtain ⟨e, h3⟩ := goodS_nat h
    generalize s.toNat = t at *
    subst e
    exact d_read a ha t h3
  · rw [if_neg h, if_neg h]
    obtain ⟨h1, h2, h4⟩ := badS h
    exact acts_still fun w => rread_bad a s h1 h2 h4
theorem d_writeA (a v : Nat) (ha : a < 4294967296) (hv : v < 4294967296) (s : Int) : Acts 29 #[.pointer (some ⟨b, 0, .none⟩), .int .u32 a, .int .i64 s, .int .u32 v] (oDoc b R) (.int .i64 (sErr s)) (oDoc b (R.writeS a s v)) := by
  unfold RS.writeS sErr
  by_cases h : goodS s
  · rw [if_pos h, if_pos h]
    obtain ⟨e, h3⟩ := goodS_nat h
    generalize s.toNat = t at *
    subst e
    exact d_write a v ha hv t h3
  · rw [if_neg h, if_neg h]
    obtain ⟨h1, h2, h4⟩ := badS h
    exact acts_still fun w => rwrite_bad a s v h1 h2 h4
end
theorem nd_writeS {R : RS} (h : Nd R) (a : Nat) (s : Int) (v : Nat) : Nd (R.writeS a s v) := by
  unfold RS.writeS
  split
  · exact nd_write h _ _ _
  · exact h
section
variable {w0 w : World} {b c : Nat} {R : RS}
theorem Hp.op6 {os : List Ob} {A0 : Nat → Prop} {y : Nat} {k a s v : Int} {sl : Value} {x : Bool} (T : Hp w0 A0 w os) (i : Nat) (h : os[i]? = some (Ob.box y (.cells #[.int .i64 k, .int .u32 a, .int .i64 s, .int .u32 v, sl, .bool x] 49))) :
    w.cell? ⟨y, 1, none⟩ = some (.int .u32 a) ∧ w.cell? ⟨y, 2, none⟩ = some (.int .i64 s) ∧ w.cell? ⟨y, 3, none⟩ = some (.int .u32 v) ∧ w.cell? ⟨y, 4, none⟩ = some sl ∧ w.cell? ⟨y, 5, none⟩ = some (.bool x) := by
  have hb := T.box i h
  exact ⟨by rw [cell_at hb]; rfl, by rw [cell_at hb]; rfl, by rw [cell_at hb]; rfl, by rw [cell_at hb]; rfl, by rw [cell_at hb]; rfl⟩
set_option maxRecDepth 20000 in
set_option maxHeartbeats 16000000 in
theorem asked_any (T : Hp w0 (fun _ => False) w [oMem b R, oDoc c R]) (hN : Nd R) (k : Int) (a : Nat) (s : Int) (v : Nat) (da : Option Addr) (n dc : Nat) (f : Nat → Nat) (x : Bool) (ha : a < 4294967296) (hv : v < 4294967296) (D : BytesIn w0 da n f) (hn : n ≤ 140737488351232) :
    Calls Try.prog 19 #[.pointer (some ⟨b, 0, none⟩), .pointer (some ⟨c, 0, none⟩), .agg #[.int .i64 k, .int .u32 (a : Nat), .int .i64 s, .int .u32 (v : Nat), .slice da n dc, .bool x]] w fun e w' => e = .returned (.bool true) ∧ ∃ R', Nd R' ∧ Hp w0 (fun _ => False) w' [oMem b R', oDoc c R'] := by
  have HF := Lib.hid (And.intro ha (And.intro hv (And.intro D hn)))
  have HN := Lib.hid hN
  have T1 := T.make (.cells #[.int .i64 k, .int .u32 (a : Nat), .int .i64 s, .int .u32 (v : Nat), .slice da n dc, .bool x] 49)
  clear ha hv D hN T
  go_enter Try.func19, Try.ntmps19
  go_upto_region 1 with (fail)
  generalize w.alloc (.cells #[.int .i64 k, .int .u32 (a : Nat), .int .i64 s, .int .u32 (v : Nat), .slice da n dc, .bool x] 49) = W at *
  generalize w.heap.size = y at *
  have hb := T1.box 2 rfl
  have z0 : W.cell? ⟨y, 0, none⟩ = some (.int .i64 k) := by rw [cell_at hb]; rfl
  obtain ⟨z1, z2, z3, z4, z5⟩ := T1.op6 2 rfl
  have zl := heap_lt hb
  have HT := Lib.hid (show Hp w0 (fun _ => False) W [oMem b R, oDoc c R, Ob.box y (.cells #[.int .i64 k, .int .u32 (a : Nat), .int .i64 s, .int .u32 (v : Nat), .slice da n dc, .bool x] 49)] from T1)
  clear hb T1
  by_cases h1 : k = 1
  · subst h1
    go_wp2_with fail
    refine (HT.out.act 0 rfl (m_readA a HF.out.1 s)).mono ?_
    rintro e w5 ⟨rfl, T5⟩
    clear z0
    clear z1 z2 z3 z4 z5 zl
    obtain ⟨z1, z2, z3, z4, z5⟩ := T5.op6 2 rfl
    have zl := heap_lt (T5.box 2 rfl)
    have HT5 := Lib.hid T5
    clear T5
    go_wp2_with fail
    refine (HT5.out.act 1 rfl (d_readA a HF.out.1 s)).mono ?_
    rintro e w6 ⟨rfl, T6⟩
    clear z1 z2 z3 z4 z5 zl
    go_wp2_with fail
    go_ret
    exact ⟨by first | rfl | (simp; done), R, HN.out, Hp.left (l1 := [oMem b (R), oDoc c (R)]) T6⟩
  have e1 : (k == 1) = false := by simpa using h1
  by_cases h2 : k = 2
  · subst h2
    clear e1 h1
    go_upto_region 7 with (fail)
    clear z0
    have TA := Lib.hid HT.out.drew
    go_region_held3 (fun w' => w'.cell? ⟨y, 1, none⟩ = some (.int .u32 (a : Nat)) ∧ w'.cell? ⟨y, 2, none⟩ = some (.int .i64 s) ∧ w'.cell? ⟨y, 3, none⟩ = some (.int .u32 (v : Nat)) ∧ w'.cell? ⟨y, 4, none⟩ = some (.slice da n dc) ∧ w'.cell? ⟨y, 5, none⟩ = some (.bool x)) (first | exact TA.out.op6 2 rfl | exact TC.op6 2 rfl | exact TB.op6 2 rfl | go_keep)
      (first
        | (go_at_call 10; refine (TA.out.act 0 rfl (m_writeA a v HF.out.1 HF.out.2.1 s)).mono ?_; rintro e w5 ⟨rfl, TB⟩)
        | (go_at_call 29; refine (TB.act 1 rfl (d_writeA a v HF.out.1 HF.out.2.1 s)).mono ?_; rintro e w6 ⟨rfl, TC⟩))
    clear z1 z2 z3 z4 z5 zl
    go_wp2_with fail
    go_ret
    exact ⟨by first | rfl | (simp; done), R.writeS a s v, nd_writeS HN.out a s v, Hp.left (l1 := [oMem b (R.writeS a s v), oDoc c (R.writeS a s v)]) TC⟩
  have e2 : (k == 2) = false := by simpa using h2
  by_cases h3 : k = 3
  · subst h3
    clear e1 h1 e2 h2
    go_wp2_with fail
    refine (HT.out.act 0 rfl (m_gate x)).mono ?_
    rintro e w5 ⟨rfl, T5⟩
    clear z0
    clear z1 z2 z3 z4 z5 zl
    obtain ⟨z1, z2, z3, z4, z5⟩ := T5.op6 2 rfl
    have zl := heap_lt (T5.box 2 rfl)
    obtain ⟨yy, d4, df, dl, TG⟩ := T5.gateR 1 rfl x
    have HTG := Lib.hid (show Hp w0 (fun _ => False) (w5.setCell ⟨c, 4, none⟩ (.bool !x)) [oMem b (R.gate x), oDoc c (R.gate x), Ob.box y (.cells #[.int .i64 3, .int .u32 (a : Nat), .int .i64 s, .int .u32 (v : Nat), .slice da n dc, .bool x] 49)] from TG)
    clear T5 TG
    go_upto_region 34 with (fail)
    clear z1 z2 z3 z4 z5 zl
    generalize w5.setCell ⟨c, 4, none⟩ (.bool !x) = w9 at *
    clear d4 df dl
    obtain ⟨z1, z2, z3, z4, z5⟩ := HTG.out.op6 2 rfl
    have zl := heap_lt (HTG.out.box 2 rfl)
    go_upto_region 34 with (fail)
    have TA := Lib.hid HTG.out.drew
    go_region_held3 (fun w' => w'.cell? ⟨y, 1, none⟩ = some (.int .u32 (a : Nat)) ∧ w'.cell? ⟨y, 2, none⟩ = some (.int .i64 s) ∧ w'.cell? ⟨y, 3, none⟩ = some (.int .u32 (v : Nat)) ∧ w'.cell? ⟨y, 4, none⟩ = some (.slice da n dc) ∧ w'.cell? ⟨y, 5, none⟩ = some (.bool x)) (first | exact TA.out.op6 2 rfl | exact TC.op6 2 rfl | exact TB.op6 2 rfl | go_keep)
      (first
        | (go_at_call 15; refine (TA.out.act 0 rfl (m_watched a HF.out.1)).mono ?_; rintro e w5 ⟨rfl, TB⟩)
        | (go_at_call 34; refine (TB.act 1 rfl (d_watched a HF.out.1)).mono ?_; rintro e w6 ⟨rfl, TC⟩))
    clear z1 z2 z3 z4 z5 zl
    go_wp2_with fail
    go_ret
    exact ⟨by first | rfl | (simp; done), R.gate x, HN.out, Hp.left (l1 := [oMem b (R.gate x), oDoc c (R.gate x)]) TC⟩
  have e3 : (k == 3) = false := by simpa using h3
  by_cases h4 : k = 4
  · subst h4
    clear e1 h1 e2 h2 e3 h3
    go_upto_region 12 with (fail)
    clear z0
    have TA := Lib.hid HT.out.drew
    go_region_held3 (fun w' => w'.cell? ⟨y, 1, none⟩ = some (.int .u32 (a : Nat)) ∧ w'.cell? ⟨y, 2, none⟩ = some (.int .i64 s) ∧ w'.cell? ⟨y, 3, none⟩ = some (.int .u32 (v : Nat)) ∧ w'.cell? ⟨y, 4, none⟩ = some (.slice da n dc) ∧ w'.cell? ⟨y, 5, none⟩ = some (.bool x)) (first | exact TA.out.op6 2 rfl | exact TC.op6 2 rfl | exact TB.op6 2 rfl | go_keep)
      (first
        | (go_at_call 13; refine (TA.out.act 0 rfl (m_rom s x)).mono ?_; rintro e w5 ⟨rfl, TB⟩)
        | (go_at_call 30; refine (TB.act 1 rfl (d_rom s x)).mono ?_; rintro e w6 ⟨rfl, TC⟩))
    clear z1 z2 z3 z4 z5 zl
    go_wp2_with fail
    go_ret
    exact ⟨by first | rfl | (simp; done), R.romAt s x, nd_romAt HN.out s x, Hp.left (l1 := [oMem b (R.romAt s x), oDoc c (R.romAt s x)]) TC⟩
  have e4 : (k == 4) = false := by simpa using h4
  by_cases h5 : k = 5
  · subst h5
    clear e1 h1 e2 h2 e3 h3 e4 h4
    go_wp2_with fail
    refine (HT.out.act 0 rfl (m_watch a HF.out.1)).mono ?_
    rintro e w5 ⟨rfl, T5⟩
    clear z0
    clear z1 z2 z3 z4 z5 zl
    obtain ⟨z1, z2, z3, z4, z5⟩ := T5.op6 2 rfl
    have zl := heap_lt (T5.box 2 rfl)
    have HT5 := Lib.hid T5
    clear T5
    go_wp2_with fail
    refine (HT5.out.act 1 rfl (d_watch a HF.out.1)).mono ?_
    rintro e w6 ⟨rfl, T6⟩
    clear z1 z2 z3 z4 z5 zl
    obtain ⟨z1, z2, z3, z4, z5⟩ := T6.op6 2 rfl
    have zl := heap_lt (T6.box 2 rfl)
    have HT6 := Lib.hid T6
    clear T6
    go_upto_region 34 with (fail)
    have TA := Lib.hid HT6.out.drew
    go_region_held3 (fun w' => w'.cell? ⟨y, 1, none⟩ = some (.int .u32 (a : Nat)) ∧ w'.cell? ⟨y, 2, none⟩ = some (.int .i64 s) ∧ w'.cell? ⟨y, 3, none⟩ = some (.int .u32 (v : Nat)) ∧ w'.cell? ⟨y, 4, none⟩ = some (.slice da n dc) ∧ w'.cell? ⟨y, 5, none⟩ = some (.bool x)) (first | exact TA.out.op6 2 rfl | exact TC.op6 2 rfl | exact TB.op6 2 rfl | go_keep)
      (first
        | (go_at_call 15; refine (TA.out.act 0 rfl (m_watched a HF.out.1)).mono ?_; rintro e w5 ⟨rfl, TB⟩)
        | (go_at_call 34; refine (TB.act 1 rfl (d_watched a HF.out.1)).mono ?_; rintro e w6 ⟨rfl, TC⟩))
    clear z1 z2 z3 z4 z5 zl
    go_wp2_with fail
    go_ret
    exact ⟨by first | rfl | (simp; done), R.watch a, nd_watch HN.out a, Hp.left (l1 := [oMem b (R.watch a), oDoc c (R.watch a)]) TC⟩
  have e5 : (k == 5) = false := by simpa using h5
  by_cases h6 : k = 6
  · subst h6
    clear e1 h1 e2 h2 e3 h3 e4 h4 e5 h5
    have HOK := Lib.hid (HT.out.docok 1 rfl)
    have HLN := Lib.hid (show (gl R).length < 17592186044416 from by
      have h1 := want_len (fun g => R.noted (g * 64)) (R.pages * 64)
      have h2 := HOK.out.p2
      unfold gl; omega)
    go_wp2_with fail
    refine (HT.out.told 0 rfl (nd_len HN.out HOK.out) (nd_32 HN.out HOK.out)).mono ?_
    rintro e w5 ⟨v5, L, rfl, hL1, hL2, T5⟩
    have HL5 := Lib.hid (gl_of HN.out hL1 hL2)
    have HT5 := Lib.hid T5
    clear T5 hL1 hL2 z0 z1 z2 z3 z4 z5 zl
    go_wp2_with fail
    refine (d_told HT5.out 1 rfl HN.out).mono ?_
    rintro e w6 ⟨v6, rfl, T6⟩
    have HT6 := Lib.hid T6
    clear T6
    go_wp2_with fail
    refine (same32_any (L := gl R) (by rw [← HL5.out]; exact nums32_of (HT6.out.row 3 rfl)) (nums32_ofC (HT6.out.rowC 4 rfl)) HLN.out).mono ?_
    rintro e w7 ⟨rfl, n7, rfl⟩
    have T7 := HT6.out.drewN n7
    go_wp2_with fail
    go_ret
    exact ⟨by first | rfl | (simp; done), R.told, nd_told R, Hp.left (l1 := [oMem b (R.told), oDoc c (R.told)]) T7⟩
  have e6 : (k == 6) = false := by simpa using h6
  by_cases h7 : k = 7
  · subst h7
    clear e1 h1 e2 h2 e3 h3 e4 h4 e5 h5 e6 h6
    go_wp2_with fail
    refine (m_load HT.out 0 rfl a HF.out.1 da n dc f HF.out.2.2.1 (by have := HF.out.2.2.2; omega)).mono ?_
    rintro e w5 ⟨rfl, T5⟩
    clear z0
    clear z1 z2 z3 z4 z5 zl
    obtain ⟨z1, z2, z3, z4, z5⟩ := T5.op6 2 rfl
    have zl := heap_lt (T5.box 2 rfl)
    have HT5 := Lib.hid T5
    clear T5
    go_wp2_with fail
    refine (d_load HT5.out 1 rfl a HF.out.1 da n dc f HF.out.2.2.1 (by have := HF.out.2.2.2; omega)).mono ?_
    rintro e w6 ⟨rfl, T6⟩
    clear z1 z2 z3 z4 z5 zl
    obtain ⟨z1, z2, z3, z4, z5⟩ := T6.op6 2 rfl
    have zl := heap_lt (T6.box 2 rfl)
    have HT6 := Lib.hid T6
    clear T6
    go_upto_region 34 with (fail)
    have TA := Lib.hid HT6.out.drew
    go_region_held3 (fun w' => w'.cell? ⟨y, 1, none⟩ = some (.int .u32 (a : Nat)) ∧ w'.cell? ⟨y, 2, none⟩ = some (.int .i64 s) ∧ w'.cell? ⟨y, 3, none⟩ = some (.int .u32 (v : Nat)) ∧ w'.cell? ⟨y, 4, none⟩ = some (.slice da n dc) ∧ w'.cell? ⟨y, 5, none⟩ = some (.bool x)) (first | exact TA.out.op6 2 rfl | exact TC.op6 2 rfl | exact TB.op6 2 rfl | go_keep)
      (first
        | (go_at_call 15; refine (TA.out.act 0 rfl (m_watched a HF.out.1)).mono ?_; rintro e w5 ⟨rfl, TB⟩)
        | (go_at_call 34; refine (TB.act 1 rfl (d_watched a HF.out.1)).mono ?_; rintro e w6 ⟨rfl, TC⟩))
    clear z1 z2 z3 z4 z5 zl
    go_wp2_with fail
    go_ret
    exact ⟨by first | rfl | (simp; done), R.loads a f n, nd_loads HN.out a f n, Hp.left (l1 := [oMem b (R.loads a f n), oDoc c (R.loads a f n)]) TC⟩
  have e7 : (k == 7) = false := by simpa using h7
  by_cases h8 : k = 8
  · subst h8
    clear e1 h1 e2 h2 e3 h3 e4 h4 e5 h5 e6 h6 e7 h7
    by_cases hn1 : n ≤ 1
    · have q1 : (n : Int) - 1 < 1 := by omega
      have q0 : IntKind.i64.wrap ((n : Int) - 1) = (n : Int) - 1 := IntWalk.i64_in _ (by omega)
      go_wp2_with fail
      refine (dump_no (b := b) a ((n : Int) - 1) q1).mono ?_
      rintro e w5 ⟨rfl, rfl⟩
      go_wp2_with fail
      go_ret
      exact ⟨by first | rfl | (simp; done), R, HN.out, Hp.left (l1 := [oMem b R, oDoc c R]) HT.out⟩
    obtain ⟨m, rfl⟩ : ∃ m, n = m + 1 := ⟨n - 1, by omega⟩
    have hm1 : 1 ≤ m := by omega
    have hmb : m ≤ 140737488351232 := by have := HF.out.2.2.2; omega
    have q0 : IntKind.i64.wrap (((m + 1 : Nat) : Int) - 1) = (m : Int) := by rw [show ((m + 1 : Nat) : Int) - 1 = (m : Int) from by omega]; exact IntWalk.i64_in _ (by omega)
    have q1 : ¬ ((m : Int) < 1) := by omega
    clear hn1
    go_wp2_with fail
    obtain ⟨A, HA⟩ := HT.out.get 0 rfl
    refine (dump_any (show Ram W b A R from HA) a m HF.out.1 hm1 (by omega)).mono ?_
    rintro e w5 ⟨g, rfl, hg, hc, hbl⟩
    have T5 : Hp w0 (fun _ => False) w5 [oMem b R, oDoc c R, Ob.box y (.cells #[.int .i64 8, .int .u32 (a : Nat), .int .i64 s, .int .u32 (v : Nat), .slice da (m + 1) dc, .bool x] 49), Ob.box g (.cells (Array.ofFn (n := m) fun i => .int .u8 (R.get (at32 a i.val) : Nat)) 5)] := HT.out.new hbl (o := Ob.box g (.cells (Array.ofFn (n := m) fun i => .int .u8 (R.get (at32 a i.val) : Nat)) 5)) (A := fun k => k = g) ⟨hc, fun k => Iff.rfl⟩ (fun k hk => by rw [hk]; exact hg)
    have HT5 := Lib.hid T5
    clear T5 hc hbl hg HA HT z0 z1 z2 z3 z4 z5 zl
    obtain ⟨z1, z2, z3, z4, z5⟩ := HT5.out.op6 2 rfl
    have zl := heap_lt (HT5.out.box 2 rfl)
    go_wp2_with fail
    go_loopw [13] (fun j wc => ∃ (k : Nat) (cur : Array Value), k ≤ m ∧ j = .int .i64 k ∧ cur.size = m ∧ (∀ i, k ≤ i → i < m → cur[i]? = some (.int .u8 (R.get (at32 a i) : Nat))) ∧ Hp w0 (fun _ => False) wc [oMem b R, oDoc c R, Ob.box y (.cells #[.int .i64 8, .int .u32 (a : Nat), .int .i64 s, .int .u32 (v : Nat), .slice da (m + 1) dc, .bool x] 49), Ob.box g (.cells cur 5)]) (fun j _ => m - (intOf j).toNat)
    case atStart => exact ⟨0, _, by omega, rfl, by simp, fun i _ hi => by rw [Array.getElem?_ofFn, dif_pos hi], HT5.out⟩
    case round =>
      rename_i wr
      clear HT5 z1 z2 z3 z4 z5 zl
      obtain ⟨k, cur, hk, rfl, hcs, hcur, T⟩ := hrel
      have HT := Lib.hid T
      clear T
      obtain ⟨z1, z2, z3, z4, z5⟩ := HT.out.op6 2 rfl
      have zl := heap_lt (HT.out.box 2 rfl)
      by_cases hlt : k < m
      · have p1 : (0 : Int) ≤ (k : Int) := by omega
        have p2 : (k : Int) < m := by omega
        have hb3 := HT.out.box 3 rfl
        have hck : wr.cell? ⟨g, k, none⟩ = some (.int .u8 (R.get (at32 a k) : Nat)) := by rw [cell_at hb3]; exact hcur k (Nat.le_refl _) hlt
        have HCU := Lib.hid (And.intro hcs hcur)
        obtain ⟨vv, hvv⟩ : ∃ vv : Int, vv = (R.get (at32 a k) : Nat) := ⟨_, rfl⟩
        rw [← hvv] at hck
        have HVV := Lib.hid hvv
        clear hcs hcur hvv hb3
        go_upto_region 31 with (fail)
        have TA := Lib.hid HT.out.drew
        go_region_held3 (fun w' => w'.cell? ⟨y, 1, none⟩ = some (.int .u32 (a : Nat)) ∧ w'.cell? ⟨g, k, none⟩ = some (.int .u8 vv)) (first | exact ⟨(TB.op6 2 rfl).1, by rw [cell_at (TB.box 3 rfl), HVV.out]; exact HCU.out.2 k (Nat.le_refl _) hlt⟩ | exact ⟨(TA.out.op6 2 rfl).1, by rw [cell_at (TA.out.box 3 rfl), HVV.out]; exact HCU.out.2 k (Nat.le_refl _) hlt⟩ | go_keep)
          (first
            | (go_at_call 33; refine (TA.out.act 1 rfl (d_byte (at32 a k) (at32_lt a k) _ (by simp only [IntKind.wrap_u32]; unfold at32; omega))).mono ?_; rintro e w6 ⟨he, TB⟩; (have he2 : e = .returned (.int .u8 vv) := (by rw [HVV.out]; exact he)); subst he2))
        have hb6 := TB.box 3 rfl
        have hlk : k < cur.size := by rw [HCU.out.1]; exact hlt
        have hck : w6.cell? ⟨g, k, none⟩ = some (cur[k]) := by rw [cell_at hb6]; exact Array.getElem?_eq_getElem hlk
        have hfk : w6.frozen? ⟨g, k, none⟩ = false := free_at hb6
        have hgl := heap_lt hb6
        have TS := Lib.hid (show Hp w0 (fun _ => False) (w6.setCell ⟨g, k, none⟩ (.int .u8 99)) [oMem b R, oDoc c R, Ob.box y (.cells #[.int .i64 8, .int .u32 (a : Nat), .int .i64 s, .int .u32 (v : Nat), .slice da (m + 1) dc, .bool x] 49), Ob.box g (.cells (cur.setIfInBounds k (.int .u8 99)) 5)] from TB.set 3 rfl k (.int .u8 99))
        clear z1 z2 z3 z4 z5 zl hb6 TB TA he
        go_wp2_with fail
        go_roundw
        case rel => exact ⟨k + 1, _, by omega, by go_num, by rw [Array.size_setIfInBounds]; exact HCU.out.1, fun i hi1 hi2 => by rw [Array.getElem?_setIfInBounds_ne (by omega)]; exact HCU.out.2 i (by omega) hi2, TS.out⟩
        case measure => (simp [intOf]) <;> omega
      · obtain rfl : k = m := by omega
        have p2 : ¬ ((k : Int) < k) := by omega
        clear hcs hcur
        go_upto_region 34 with (fail)
        have TA := Lib.hid HT.out.drew
        go_region_held3 (fun w' => w'.cell? ⟨y, 1, none⟩ = some (.int .u32 (a : Nat)) ∧ w'.cell? ⟨y, 2, none⟩ = some (.int .i64 s) ∧ w'.cell? ⟨y, 3, none⟩ = some (.int .u32 (v : Nat)) ∧ w'.cell? ⟨y, 4, none⟩ = some (.slice da (k + 1) dc) ∧ w'.cell? ⟨y, 5, none⟩ = some (.bool x)) (first | exact TA.out.op6 2 rfl | exact TC.op6 2 rfl | exact TB.op6 2 rfl | go_keep)
          (first
            | (go_at_call 15; refine (TA.out.act 0 rfl (m_watched a HF.out.1)).mono ?_; rintro e w5 ⟨rfl, TB⟩)
            | (go_at_call 34; refine (TB.act 1 rfl (d_watched a HF.out.1)).mono ?_; rintro e w6 ⟨rfl, TC⟩))
        clear z1 z2 z3 z4 z5 zl
        go_wp2_with fail
        go_ret
        exact ⟨by first | rfl | (simp; done), R, HN.out, Hp.left (l1 := [oMem b (R), oDoc c (R)]) TC⟩
  have e8 : (k == 8) = false := by simpa using h8
  clear h1 h2 h3 h4 h5 h6 h7 h8
  go_upto_region 34 with (fail)
  have TA := Lib.hid HT.out.drew
  go_region_held3 (fun w' => w'.cell? ⟨y, 1, none⟩ = some (.int .u32 (a : Nat)) ∧ w'.cell? ⟨y, 2, none⟩ = some (.int .i64 s) ∧ w'.cell? ⟨y, 3, none⟩ = some (.int .u32 (v : Nat)) ∧ w'.cell? ⟨y, 4, none⟩ = some (.slice da n dc) ∧ w'.cell? ⟨y, 5, none⟩ = some (.bool x)) (first | exact TA.out.op6 2 rfl | exact TC.op6 2 rfl | exact TB.op6 2 rfl | go_keep)
    (first
      | (go_at_call 15; refine (TA.out.act 0 rfl (m_watched a HF.out.1)).mono ?_; rintro e w5 ⟨rfl, TB⟩)
      | (go_at_call 34; refine (TB.act 1 rfl (d_watched a HF.out.1)).mono ?_; rintro e w6 ⟨rfl, TC⟩))
  clear z1 z2 z3 z4 z5 zl
  go_wp2_with fail
  go_ret
  exact ⟨by first | rfl | (simp; done), R, HN.out, Hp.left (l1 := [oMem b (R), oDoc c (R)]) TC⟩
end
end Go.Proofs.Ytfdeojefcfnogaa
