/- Steps of a proof: ExC, ExD, TlbD, Kp, VmTop, together. -/
import Derived.Test.YtmpcafdgkbpneaaGreatS13
import Derived.Deep.RegionHeld3
import Derived.StillTailTactics
import Derived.Test.YtmpcafdgkbpneaaGreatS7
import Derived.Maps.Range
import Derived.Test.YtmpcafdgkbpneaaGreatS8
import Derived.Test.YtmpcafdgkbpneaaGreatS5
import Derived.Test.YtmpcafdgkbpneaaGreatS12
import Derived.Deep.MidRow
import Derived.Laws.CopyOwn
/- except: sys, descriptor, push. -/
set_option maxHeartbeats 4000000
set_option maxRecDepth 20000
namespace Go.Proofs.YtmpcafdgkbpneaaGreat
open Go.RowKit Go.MapKept
set_option linter.unusedVariables false
attribute [local go_sem ↓] Go.wp_at_zero Go.wp_at_succ

section
variable {w w' w0 : World} {A A0 : Nat → Prop} {os : List Ob} {eb vb bb : Nat} {pl : Pl} {n n' : Nat} {s s' : Es}
def fBox (g : Nat) (f : FaultS) : Ob := Ob.box g (.cells #[.int .i64 f.vec, .int .i64 f.cd, .int .u32 (f.cr2 : Nat)] 42)
theorem Hp.fbox (T : Hp w0 A0 w os) (i : Nat) {g : Nat} {f : FaultS} (h : os[i]? = some (fBox g f)) : w.cell? ⟨g, 0, none⟩ = some (.int .i64 f.vec) ∧ w.cell? ⟨g, 1, none⟩ = some (.int .i64 f.cd) ∧ w.cell? ⟨g, 2, none⟩ = some (.int .u32 (f.cr2 : Nat)) ∧ (∀ k, w.frozen? ⟨g, k, none⟩ = false) ∧ g < w.heap.size := by
 have hb := T.box i h
 exact ⟨by rw [cell_at hb]; rfl, by rw [cell_at hb]; rfl, by rw [cell_at hb]; rfl, fun k => free_at hb, heap_lt hb⟩
theorem Hp.fset (T : Hp w0 A0 w os) (i : Nat) {g : Nat} {f : FaultS} (h : os[i]? = some (fBox g f)) (f' : FaultS) : Hp w0 A0 (sets3 w g (.int .i64 f'.vec) (.int .i64 f'.cd) (.int .u32 (f'.cr2 : Nat))) (os.set i (fBox g f')) := by
 obtain ⟨C, ⟨c, e⟩, k⟩ := T.turn i h
 exact k _ C (fBox g f') ⟨block_sets3 c _ _ _, e⟩ ⟨(keeps_sets3 w g _ _ _).mono fun j _ hj => (e j).2 hj, fun j hj => .inl hj⟩
theorem sys_x (a : Nat) (ha : a < 4294967296) (size : Int) (hn : (n + 2) * 12 ≤ 140737488355328) :
    Goes 27 #[.pointer (some ⟨eb, 0, none⟩), .int .u32 (a : Nat), .int .i64 size] (oEn eb vb bb pl n s) (sysE a size s) (fun v => .int .u32 (v : Nat)) (oEn eb vb bb pl (n + 2)) := by
 rintro w A T
 have HT := Lib.hid (Hp.solo T)
 have HA := Lib.hid (And.intro ha hn)
 obtain ⟨⟨⟨v, f⟩, R'⟩, hr⟩ : ∃ r, ldOf (sy s.R s.C a size false) = r := ⟨_, rfl⟩
 have c : Acts 63 #[.pointer (some ⟨vb, 0, none⟩), .pointer (some ⟨eb, 0, none⟩), .int .u32 (a : Nat), .int .i64 size] (oEn eb vb bb pl n s) (.tuple #[.int .u32 (v : Nat), .agg #[.int .i64 f.vec, .int .i64 f.cd, .int .u32 (f.cr2 : Nat)]]) (oEn eb vb bb pl (n + 2) ⟨s.C, R'⟩) := by
  have := oEn_sys (eb := eb) (vb := vb) (bb := bb) (pl := pl) (n := n) (s := s) a ha size hn
  rw [hr] at this
  exact this
 have hs : sysE a size s = if 0 ≤ f.vec then (.error f, ⟨s.C, R'⟩) else (.ok v, ⟨s.C, R'⟩) := by unfold sysE toldE; rw [hr]
 have HC := Lib.hid c
 have HS := Lib.hid hs
 clear T ha hn c hr hs
 go_enter Tryz.func27, Tryz.ntmps27
 obtain ⟨k3, -, kl⟩ := HT.out.en 0 rfl
 go_upto_region 1 with (fail)
 have TA := Lib.hid HT.out.drew
 have TB := Lib.hid (show Hp w A (w.alloc (.cells #[.int .i64 0, .int .i64 0, .int .u32 0] 42)).drew [oEn eb vb bb pl n s, fBox w.heap.size ⟨0, 0, 0⟩] from (HT.out.make (.cells #[.int .i64 0, .int .i64 0, .int .u32 0] 42)).drew)
 go_region_held3 (fun w' => w'.cell? ⟨eb, 83, none⟩ = some (.pointer (some ⟨vb, 0, none⟩)))
  (first | (with_reducible exact k4.1) | (with_reducible exact k5.1) | (with_reducible exact k3.1) | (with_reducible exact (TA.out.en 0 rfl).1) | (with_reducible exact (TB.out.en 0 rfl).1) | exact k4.1)
  (first
  | (go_at_call 63; (with_reducible refine (TA.out.act 0 rfl HC.out).mono ?_); rintro e w3 ⟨rfl, T3⟩; have k3 := T3.en (eb := eb) (vb := vb) (bb := bb) (pl := pl) (n := n + 2) (s := ⟨s.C, R'⟩) 0 rfl; have T4 : Hp w A (w3.alloc (.cells #[.int .i64 f.vec, .int .i64 f.cd, .int .u32 (f.cr2 : Nat)] 42)) [oEn eb vb bb pl (n + 2) ⟨s.C, R'⟩, fBox w3.heap.size f] := T3.make _; have k4 := T4.en 0 rfl; have k5 := (T3.make (.cells #[.int .i64 0, .int .i64 0, .int .u32 0] 42)).en (eb := eb) (vb := vb) (bb := bb) (pl := pl) (n := n + 2) (s := ⟨s.C, R'⟩) 0 rfl)
  | (go_at_call 63; (with_reducible refine (TB.out.act 0 rfl HC.out).mono ?_); rintro e w3 ⟨rfl, T3⟩; have k3 := T3.en (eb := eb) (vb := vb) (bb := bb) (pl := pl) (n := n + 2) (s := ⟨s.C, R'⟩) 0 rfl; have T4 : Hp w A (sets3 w3 w.heap.size (.int .i64 f.vec) (.int .i64 f.cd) (.int .u32 (f.cr2 : Nat))) [oEn eb vb bb pl (n + 2) ⟨s.C, R'⟩, fBox w.heap.size f] := T3.fset 1 rfl f; have k4 := T4.en 0 rfl; obtain ⟨z0, z1, z2, zf, zl⟩ := T3.fbox (f := ⟨0, 0, 0⟩) (g := w.heap.size) 1 rfl))
 all_goals
  try (change Exit.then _ _ _ _ (sets3 w3 w.heap.size (.int .i64 f.vec) (.int .i64 f.cd) (.int .u32 (f.cr2 : Nat))))
  have HT4 := Lib.hid T4
  try clear z0 z1 z2 zf zl
  obtain ⟨z0, z1, z2, zf, zl⟩ := T4.fbox (f := f) 1 rfl
  clear T3 T4 k3 k4
  try clear k5
  by_cases hv : 0 ≤ f.vec
  ·have HV := Lib.hid (show sysE a size s = (.error f, ⟨s.C, R'⟩) by rw [HS.out, if_pos hv])
   go_wp2_with fail
   refine (pass_not f hv _).mono ?_
   rintro e w5 ⟨he, hb⟩
   unfold gaveX faultX at he
   subst he
   go_wp2_with fail
   exact ⟨rfl, goes_no (HT4.out.grow hb) HV.out⟩
  ·have HV := Lib.hid (show sysE a size s = (.ok v, ⟨s.C, R'⟩) by rw [HS.out, if_neg hv])
   go_wp2_with fail
   refine (pass_yes f (by omega) _).mono ?_
   rintro e w5 ⟨rfl, hb⟩
   have HE := Lib.hid (HT4.out.grow hb)
   clear z0 z1 z2 zf zl hb
   go_wp2_with fail
   go_ret
   exact goes_ok (enc := fun v => .int .u32 (v : Nat)) HE.out HV.out
end
theorem told_ok {s s1 : Es} {g : (Nat × FaultS) × RS} {v : Nat} (h : toldE g s = (.ok v, s1)) : g.1.2.vec < 0 ∧ v = g.1.1 ∧ s1 = ⟨s.C, g.2⟩ := by
 unfold toldE at h
 split at h
 ·cases h
 ·rename_i hn
  obtain ⟨h1, h2⟩ := Prod.mk.inj h
  exact ⟨by omega, by cases h1; rfl, h2.symm⟩
theorem told_no {s s1 : Es} {g : (Nat × FaultS) × RS} {f : FaultS} (h : toldE g s = (.error f, s1)) : f = g.1.2 ∧ 0 ≤ f.vec ∧ s1 = ⟨s.C, g.2⟩ := by
 unfold toldE at h
 split at h
 ·rename_i hn
  obtain ⟨h1, h2⟩ := Prod.mk.inj h
  cases h1
  exact ⟨rfl, hn, h2.symm⟩
 ·cases h
theorem sysE_ok {s s1 : Es} {a k v : Nat} (hw : Wide s.R) (hw1 : Wide s1.R) (hc : s.C.ok) (ha : a < 4294967296) (hk : k = 1 ∨ k = 2 ∨ k = 4) (h : sysE a (k : Int) s = (.ok v, s1)) : v < 256 ^ k ∧ s1.C = s.C := by
 obtain ⟨h1, h2, h3⟩ := told_ok (g := ldOf (sy s.R s.C a (k : Int) false)) h
 have hC : s1.C = s.C := by rw [h3]
 refine ⟨?_, hC⟩
 have hR : s1.R = (ldOf (sy s.R s.C a (k : Int) false)).2 := by rw [h3]
 rw [sy_yes hk] at h1 h2 hR
 obtain ⟨⟨p, R'⟩, hp⟩ : ∃ r, pg s.R s.C a k false false = r := ⟨_, rfl⟩
 rw [hp] at h1 h2 hR
 cases p with
 | fault cd x =>
  exfalso
  have : (14 : Int) < 0 := h1
  omega
 | ok sp =>
  have h2 : v = getN R' sp (sp.n0 + sp.n1) := h2
  have hR : s1.R = R' := hR
  obtain ⟨_, hn⟩ := pg_fits hw ha (by omega) hc.cr3 hp
  rw [h2, ← hn, ← hR]
  exact getN_lt hw1.ok sp _
theorem and_bit16 (x : Nat) (h : x < 65536) : bits .and .u16 (x : Int) 4 = ((x / 4 % 2 * 4 : Nat) : Int) := by
 have e := u16_and_nat x 4 h (by decide)
 have f := nat_field x 2 1
 rw [show (4 : Int) = ((4 : Nat) : Int) from rfl, e, show (4 : Nat) = (2 ^ 1 - 1) * 2 ^ 2 by decide, f]
theorem or7_16 (x : Nat) (h : x < 65536) : bits .or .u16 (x : Int) 7 = ((x - x % 8 + 7 : Nat) : Int) := by
 have e := u16_or_nat x 7 h (by decide)
 rw [show (7 : Int) = ((7 : Nat) : Int) from rfl, e]
 congr 1
 have h1 : x = 2 ^ 3 * (x / 8) ||| x % 8 := by
  rw [← Nat.two_pow_add_eq_or_of_lt (show x % 8 < 2 ^ 3 by omega)]; omega
 have h2 : ∀ y, y < 8 → y ||| 7 = 7 := by decide
 rw [h1, Nat.or_assoc, h2 _ (by omega), ← Nat.two_pow_add_eq_or_of_lt (show 7 < 2 ^ 3 by decide)]
 have h3 : (2 ^ 3 * (x / 8) ||| x % 8) = x := h1.symm
 rw [h3]
 omega
theorem not7_16 (x : Nat) (h : x < 65536) : bits .andNot .u16 (x : Int) 7 = ((x - x % 8 : Nat) : Int) := by
 have e := u16_andNot_nat x 7 h (by decide)
 have f := nat_field x 3 13
 rw [show (7 : Int) = ((7 : Nat) : Int) from rfl, e, show 65535 - 7 = (2 ^ 13 - 1) * 2 ^ 3 by decide, f]
 omega
theorem CpuAt.tabs {w : World} {b : Nat} {C : CpuS} (h : CpuAt w b C) : w.cell? ⟨b, 67, none⟩ = some (.int .u32 (C.gb : Nat)) ∧ w.cell? ⟨b, 68, none⟩ = some (.int .u16 (C.gl : Nat)) ∧ w.cell? ⟨b, 69, none⟩ = some (.int .u32 (C.ib : Nat)) ∧ w.cell? ⟨b, 70, none⟩ = some (.int .u16 (C.il : Nat)) ∧ b < w.heap.size :=
 ⟨(h.cell 67 (by decide)).trans rfl, (h.cell 68 (by decide)).trans rfl, (h.cell 69 (by decide)).trans rfl, (h.cell 70 (by decide)).trans rfl, h.lt⟩
theorem seg_of_nums (lo hi : Nat) (hl : lo < 4294967296) (hh : hi < 4294967296) : ((pBase lo hi).toNat : Int) = pBase lo hi ∧ ((pLimit lo hi).toNat : Int) = pLimit lo hi ∧ (pBase lo hi).toNat < 4294967296 ∧ (pLimit lo hi).toNat < 4294967296 := by
 have h0 := lim0_bd (lo : Int) (hi : Int)
 have h1 : 0 ≤ pBase lo hi ∧ pBase lo hi < 4294967296 := by unfold pBase; omega
 have h2 : 0 ≤ pLimit lo hi ∧ pLimit lo hi < 4294967296 := by unfold pLimit; split <;> omega
 omega
theorem seg_of_ok (sel lo hi : Nat) (hs : sel < 65536) (hl : lo < 4294967296) (hh : hi < 4294967296) : (SegR.of sel lo hi).ok := by
 obtain ⟨-, -, h1, h2⟩ := seg_of_nums lo hi hl hh
 refine ⟨hs, h1, h2, ?_, ?_⟩
 ·show _ ≤ pTy (hi : Int) ∧ pTy (hi : Int) ≤ _
  unfold pTy; omega
 ·show _ ≤ pDpl (hi : Int) ∧ pDpl (hi : Int) ≤ _
  unfold pDpl; omega
theorem parse_x (sel lo hi : Nat) (hl : lo < 4294967296) (hh : hi < 4294967296) (x y : Int) (hx : x = (lo : Int)) (hy : y = (hi : Int)) (w : World) :
    Calls Tryz.prog 64 #[.int .u32 x, .int .u32 y] w fun e w' => e = .returned (.agg #[.int .u32 ((SegR.of sel lo hi).base : Nat), .int .u32 ((SegR.of sel lo hi).lim : Nat), .int .i64 (SegR.of sel lo hi).typ, .bool (SegR.of sel lo hi).sys, .int .i64 (SegR.of sel lo hi).dpl, .bool (SegR.of sel lo hi).pre, .bool (SegR.of sel lo hi).big]) ∧ Below w.heap.size w w' := by
 subst hx hy
 obtain ⟨h1, h2, -, -⟩ := seg_of_nums lo hi hl hh
 refine (parse_any lo hi w (by omega) (by omega) (by omega) (by omega)).mono ?_
 rintro e w' ⟨rfl, hb⟩
 refine ⟨?_, hb⟩
 show Ending.returned (.agg #[.int .u32 (pBase lo hi), .int .u32 (pLimit lo hi), .int .i64 (pTy hi), .bool (!hbit hi 12), .int .i64 (pDpl hi), .bool (hbit hi 15), .bool (hbit hi 22)]) = Ending.returned (.agg #[.int .u32 ((pBase lo hi).toNat : Nat), .int .u32 ((pLimit lo hi).toNat : Nat), .int .i64 (pTy hi), .bool (!hbit hi 12), .int .i64 (pDpl hi), .bool (hbit hi 15), .bool (hbit hi 22)])
 rw [h1, h2]
end Go.Proofs.YtmpcafdgkbpneaaGreat

/- except: descriptor, push. -/
namespace Go.Proofs.YtmpcafdgkbpneaaGreat
open Go.RowKit Go.MapKept
set_option linter.unusedVariables false
attribute [local go_sem ↓] Go.wp_at_zero Go.wp_at_succ

section
variable {w w' w0 : World} {A A0 : Nat → Prop} {os : List Ob} {eb vb bb : Nat} {pl : Pl} {n n' : Nat} {s s' : Es}
def descO (d : SegR) : Obj := .cells #[.int .u32 (d.base : Nat), .int .u32 (d.lim : Nat), .int .i64 d.typ, .bool d.sys, .int .i64 d.dpl, .bool d.pre, .bool d.big] 29
def zDesc : SegR := ⟨0, false, 0, 0, 0, false, 0, false, false⟩
theorem Hp.dbox (T : Hp w0 A0 w os) (i : Nat) {g : Nat} {d : SegR} (h : os[i]? = some (Ob.box g (descO d))) : w.cell? ⟨g, 0, none⟩ = some (.int .u32 (d.base : Nat)) ∧ w.cell? ⟨g, 1, none⟩ = some (.int .u32 (d.lim : Nat)) ∧ w.cell? ⟨g, 2, none⟩ = some (.int .i64 d.typ) ∧ w.cell? ⟨g, 3, none⟩ = some (.bool d.sys) ∧ w.cell? ⟨g, 4, none⟩ = some (.int .i64 d.dpl) ∧ w.cell? ⟨g, 5, none⟩ = some (.bool d.pre) ∧ w.cell? ⟨g, 6, none⟩ = some (.bool d.big) ∧ (∀ k, w.frozen? ⟨g, k, none⟩ = false) ∧ g < w.heap.size := by
 have hb := T.box i h
 refine ⟨?_, ?_, ?_, ?_, ?_, ?_, ?_, fun k => free_at (show w.heap[g]? = some (.cells _ _) from hb), heap_lt hb⟩ <;> (rw [cell_at (show w.heap[g]? = some (.cells _ _) from hb)]; rfl)
theorem dres {g : Nat} {d : SegR} {fn : Func} {tmps : Array Value} {c : Tmp} (hf : fn.results = #[.cell c 29]) (ht : tmps.getD c undef = .pointer (some ⟨g, 0, none⟩)) (w5 : World) (hb : w5.heap[g]? = some (descO d)) : (results fn tmps).run Tryz.prog w5 = .ok d.dval w5 := by
 unfold descO at hb
 have c0 := cell_at (k := 0) hb
 have c1 := cell_at (k := 1) hb
 have c2 := cell_at (k := 2) hb
 have c3 := cell_at (k := 3) hb
 have c4 := cell_at (k := 4) hb
 have c5 := cell_at (k := 5) hb
 have c6 := cell_at (k := 6) hb
 simp at c0 c1 c2 c3 c4 c5 c6
 have ht' : tmps[c]?.getD undef = .pointer (some ⟨g, 0, none⟩) := by simpa using ht
 simp [results, hf, go_sem, ht', c0, c1, c2, c3, c4, c5, c6, SegR.dval]
def setsD (w : World) (g : Nat) (d : SegR) : World := ((((((w.setCell ⟨g, 0, none⟩ (.int .u32 (d.base : Nat))).setCell ⟨g, 1, none⟩ (.int .u32 (d.lim : Nat))).setCell ⟨g, 2, none⟩ (.int .i64 d.typ)).setCell ⟨g, 3, none⟩ (.bool d.sys)).setCell ⟨g, 4, none⟩ (.int .i64 d.dpl)).setCell ⟨g, 5, none⟩ (.bool d.pre)).setCell ⟨g, 6, none⟩ (.bool d.big)
theorem keeps_setsD (w : World) (g : Nat) (d : SegR) : Keeps (· = g) w (setsD w g d) := (((((((Keeps.refl (· = g) w).setOne 0 _).setOne 1 _).setOne 2 _).setOne 3 _).setOne 4 _).setOne 5 _).setOne 6 _
theorem block_setsD {g : Nat} {d0 : SegR} (h : w.heap[g]? = some (descO d0)) (d : SegR) : (setsD w g d).heap[g]? = some (descO d) := by
 unfold setsD
 unfold descO at h
 simp only [heap_set_map, putObj_cells, h, Option.map_some, List.set_cons_succ, List.set_cons_zero]
 rfl
theorem Hp.dset (T : Hp w0 A0 w os) (i : Nat) {g : Nat} {d0 : SegR} (h : os[i]? = some (Ob.box g (descO d0))) (d : SegR) : Hp w0 A0 (setsD w g d) (os.set i (Ob.box g (descO d))) := by
 obtain ⟨C, ⟨c, e⟩, k⟩ := T.turn i h
 exact k _ C (Ob.box g (descO d)) ⟨block_setsD c d, e⟩ ⟨(keeps_setsD w g d).mono fun j _ hj => (e j).2 hj, fun j hj => .inl hj⟩
theorem desc_x (sel : Nat) (hs : sel < 65536) (vec cd : Int) (hn : (n + 4) * 12 ≤ 140737488355328) :
    Goes 30 #[.pointer (some ⟨eb, 0, none⟩), .int .u16 (sel : Nat), .int .i64 vec, .int .i64 cd] (oEn eb vb bb pl n s) (descE sel vec cd s) SegR.dval (oEn eb vb bb pl (n + 4)) := by
 rintro w A T
 have HW := Lib.hid (oEn_wide T)
 have HO := Lib.hid (oEn_ok T)
 have T1 : Hp w A (w.alloc (descO zDesc)) [oEn eb vb bb pl n s, Ob.box w.heap.size (descO zDesc)] := (Hp.solo T).make _
 have HT := Lib.hid T1
 have HA := Lib.hid (And.intro hs hn)
 obtain ⟨k7, k8, -, -, kl⟩ := (T1.cpu 0 rfl).tabs
 obtain ⟨z0, z1, z2, z3, z4, z5, z6, zf, zl⟩ := T1.dbox 1 rfl
 have e4 := and_bit16 sel hs
 have e7 := or7_16 sel hs
 have e7n := not7_16 sel hs
 have hgb := HO.out.gb
 have hq0 : sel - sel % 8 < 65536 := by omega
 obtain ⟨q, hq⟩ : ∃ q, q = sel - sel % 8 := ⟨_, rfl⟩
 rw [← hq] at e7 e7n hq0
 have hE : descE sel vec cd s = (needE (sel / 4 % 2 == 0 && decide (q + 7 ≤ s.C.gl)) vec cd).then (fun _ => (sysE ((s.C.gb + q) % 4294967296) 4).then fun lo => (sysE (((s.C.gb + q) % 4294967296 + 4) % 4294967296) 4).then fun hi => Ex.ret (SegR.of sel lo hi)) s := by rw [hq]; rfl
 have HE := Lib.hid hE
 clear T T1 hs hn hq hE
 by_cases h4 : sel / 4 % 2 = 0
 ·by_cases hg : q + 7 ≤ s.C.gl
  ·have HN := Lib.hid (show (needE (sel / 4 % 2 == 0 && decide (q + 7 ≤ s.C.gl)) vec cd) s = (.ok (), s) from need_ok (by rw [h4, decide_eq_true hg]; rfl) _ _ _)
   have HE2 := Lib.hid (HE.out.trans (Ex.then_ok HN.out))
   have hg2 : (q : Int) + 7 ≤ (s.C.gl : Int) := by omega
   rw [h4, Nat.zero_mul] at e4
   have e4' : bits .and .u16 (sel : Int) 4 = 0 := e4
   rw [Int.natCast_add] at e7
   obtain ⟨a, ha⟩ : ∃ a, a = (s.C.gb + q) % 4294967296 := ⟨_, rfl⟩
   have ha1 : ((s.C.gb : Int) + (q : Int)) % 4294967296 = (a : Int) := by omega
   have ha2 : a < 4294967296 := by omega
   rw [← ha] at HE2
   clear h4 hg e4 HE HN ha
   go_enter Tryz.func30, Tryz.ntmps30
   go_upto_region 1 with (fail)
   change Code.wp _ _ _ _ (w.alloc (descO zDesc))
   generalize w.alloc (descO zDesc) = W at *
   generalize w.heap.size = g at *
   go_wp2_with (go_at_call 26; refine (need_yes _ _ _).mono ?_; rintro e w' ⟨rfl, rfl⟩)
   rw [ha1]
   rcases h1 : sysE a 4 s with ⟨f1 | lo, s1⟩
   ·refine (HT.out.go_no 0 rfl (sys_x a ha2 4 (by have := HA.out.2; omega)) h1).mono ?_
    rintro e w2 ⟨rfl, T2⟩
    go_wp2_with fail
    exact ⟨rfl, goes_no (T2.moreN (n' := n + 4) 0 rfl (by omega)) (HE2.out.trans (Ex.then_no h1))⟩
   ·refine (HT.out.go_ok 0 rfl (sys_x a ha2 4 (by have := HA.out.2; omega)) h1).mono ?_
    rintro e w2 ⟨rfl, T2⟩
    have HT2 := Lib.hid (show Hp w A w2 [oEn eb vb bb pl (n + 2) s1, Ob.box g (descO zDesc)] from T2)
    have hlo := sysE_ok (k := 4) HW.out (HT2.out.wide 0 rfl) HO.out ha2 (.inr (.inr rfl)) h1
    have HL := Lib.hid hlo
    have HE3 := Lib.hid (HE2.out.trans (Ex.then_ok h1))
    clear T2 z0 z1 z2 z3 z4 z5 z6 zf zl k7 k8 kl h1 hlo HT HE2
    obtain ⟨z0, z1, z2, z3, z4, z5, z6, zf, zl⟩ := HT2.out.dbox (d := zDesc) 1 rfl
    obtain ⟨a4, ha4⟩ : ∃ a4, a4 = (a + 4) % 4294967296 := ⟨_, rfl⟩
    have ha5 : ((a : Int) + 4) % 4294967296 = (a4 : Int) := by omega
    have ha6 : a4 < 4294967296 := by omega
    rw [← ha4] at HE3
    clear ha4
    go_wp2_with fail
    rw [ha5]
    rcases h2 : sysE a4 4 s1 with ⟨f2 | hi, s2⟩
    ·refine (HT2.out.go_no 0 rfl (sys_x a4 ha6 4 (by have := HA.out.2; omega)) h2).mono ?_
     rintro e w3 ⟨rfl, T3⟩
     go_wp2_with fail
     exact ⟨rfl, goes_no (T3.moreN (n' := n + 4) 0 rfl (by omega)) (HE3.out.trans (Ex.then_no h2))⟩
    ·refine (HT2.out.go_ok 0 rfl (sys_x a4 ha6 4 (by have := HA.out.2; omega)) h2).mono ?_
     rintro e w3 ⟨rfl, T3⟩
     have HT3 := Lib.hid (show Hp w A w3 [oEn eb vb bb pl (n + 2 + 2) s2, Ob.box g (descO zDesc)] from T3)
     have hhi := sysE_ok (k := 4) (HT2.out.wide 0 rfl) (HT3.out.wide 0 rfl) (by rw [HL.out.2]; exact HO.out) ha6 (.inr (.inr rfl)) h2
     have HH := Lib.hid hhi
     have HE4 := Lib.hid (show descE sel vec cd s = (.ok (SegR.of sel lo hi), s2) from HE3.out.trans (Ex.then_ok h2))
     clear T3 z0 z1 z2 z3 z4 z5 z6 zf zl h2 hhi HT2 HE3
     go_wp2_with fail
     refine (parse_x sel lo hi HL.out.1 HH.out.1 _ _ rfl rfl _).mono ?_
     rintro e w4 ⟨rfl, hb⟩
     have T4 := HT3.out.grow hb
     have HT4 := Lib.hid T4
     obtain ⟨z0, z1, z2, z3, z4, z5, z6, zf, zl⟩ := T4.dbox (d := zDesc) 1 rfl
     clear hb T4 HT3
     generalize hd : SegR.of sel lo hi = d at *
     go_wp2_with fail
     change bodyPost _ _ _ _ _ (setsD w4 g d)
     have T5 := HT4.out.dset 1 rfl d
     have HT5 := Lib.hid T5
     clear z0 z1 z2 z3 z4 z5 z6 zf zl HT4
     obtain ⟨z0, z1, z2, z3, z4, z5, z6, zf, zl⟩ := T5.dbox (d := d) 1 rfl
     clear T5
     generalize setsD w4 g d = w5 at *
     exact bodyPost_ret (v := d.dval) (dres rfl rfl _ (HT5.out.box 1 rfl)) rfl (goes_ok (enc := SegR.dval) HT5.out HE4.out)
  ·have HN := Lib.hid (show (needE (sel / 4 % 2 == 0 && decide (q + 7 ≤ s.C.gl)) vec cd) s = (.error ⟨vec, cd, 0⟩, s) from need_no (by rw [h4, decide_eq_false hg]; rfl) _ _ _)
   have HE2 := Lib.hid (HE.out.trans (Ex.then_no HN.out))
   have hg2 : ¬ ((q : Int) + 7 ≤ (s.C.gl : Int)) := by omega
   have hg3 : (s.C.gl : Int) < (q : Int) + 7 := by omega
   rw [h4, Nat.zero_mul] at e4
   have e4' : bits .and .u16 (sel : Int) 4 = 0 := e4
   rw [Int.natCast_add] at e7
   clear h4 hg e4 HE HN
   go_enter Tryz.func30, Tryz.ntmps30
   go_upto_region 1 with (fail)
   change Code.wp _ _ _ _ (w.alloc (descO zDesc))
   generalize w.alloc (descO zDesc) = W at *
   generalize w.heap.size = g at *
   go_wp2_with (go_at_call 26; refine (need_not _ _ _).mono ?_; rintro e w' ⟨he, rfl⟩; unfold gaveX faultX at he; subst he)
   exact ⟨rfl, goes_no (HT.out.moreN (n' := n + 4) 0 rfl (by omega)) HE2.out⟩
 ·have h5 : (sel / 4 % 2 == 0) = false := by simpa using h4
  have HN := Lib.hid (show (needE (sel / 4 % 2 == 0 && decide (q + 7 ≤ s.C.gl)) vec cd) s = (.error ⟨vec, cd, 0⟩, s) from need_no (by rw [h5]; rfl) _ _ _)
  have HE2 := Lib.hid (HE.out.trans (Ex.then_no HN.out))
  have e4' : bits .and .u16 (sel : Int) 4 = 4 := by rw [e4]; omega
  clear h4 h5 e4 HE HN
  go_enter Tryz.func30, Tryz.ntmps30
  go_upto_region 1 with (fail)
  change Code.wp _ _ _ _ (w.alloc (descO zDesc))
  generalize w.alloc (descO zDesc) = W at *
  generalize w.heap.size = g at *
  go_wp2_with (go_at_call 26; refine (need_not _ _ _).mono ?_; rintro e w' ⟨he, rfl⟩; unfold gaveX faultX at he; subst he)
  exact ⟨rfl, goes_no (HT.out.moreN (n' := n + 4) 0 rfl (by omega)) HE2.out⟩
theorem env_setR (C : CpuS) (vb bb : Nat) (v : Nat) : (envCells C vb bb).setIfInBounds 4 (.int .u32 (v : Nat)) = envCells (C.setR 4 v) vb bb := by kernel_rfl
theorem setR_ok {C : CpuS} (h : C.ok) (i v : Nat) (hv : v < 4294967296) : (C.setR i v).ok := ⟨fun j => by
 show (if j = i then v else C.r j) < _
 split
 ·exact hv
 ·exact h.r j, h.eip, h.flags, h.seg, h.cr0, h.cr2, h.cr3, h.gb, h.gl, h.ib, h.il, h.tr⟩
theorem env_heap {C : CpuS} (hb : w.heap[eb]? = some (.cells (envCells C vb bb) 40)) (k : Nat) (v : Value) : (w.setCell ⟨eb, k, none⟩ v).heap[eb]? = some (.cells ((envCells C vb bb).setIfInBounds k v) 40) := by
 rw [heap_set_map, hb]; rfl
theorem Hp.setC {C' : CpuS} (T : Hp w0 A0 w os) (i : Nat) (hi : os[i]? = some (oEn eb vb bb pl n s)) (k : Nat) (v : Value) (he : (envCells s.C vb bb).setIfInBounds k v = envCells C' vb bb) (hok : C'.ok) : Hp w0 A0 (w.setCell ⟨eb, k, none⟩ v) (os.set i (oEn eb vb bb pl n ⟨C', s.R⟩)) := by
 obtain ⟨A, H, E, e⟩ := T.get i hi
 exact T.setCpu i hi (by rw [env_heap E.box, he]) hok ((Keeps.refl (· = eb) w).setOne k v)
theorem pushE_eq (v : Nat) (s : Es) (a : Nat) (ha : a = (s.C.r 4 + 4294967292) % 4294967296) : pushE v s = (storeE 2 a 4 v).then (fun _ => Ex.upd fun s1 => ⟨s1.C.setR 4 a, s1.R⟩) s := by
 unfold pushE Ex.at
 dsimp only
 rw [← ha]
theorem CpuAt.esp {w : World} {b : Nat} {C : CpuS} (h : CpuAt w b C) : w.cell? ⟨b, 4, none⟩ = some (.int .u32 (C.r 4 : Nat)) ∧ (∀ k, w.frozen? ⟨b, k, none⟩ = false) := ⟨(h.cell 4 (by decide)).trans rfl, fun k => h.free k⟩
theorem push_x (v : Nat) (hv : v < 4294967296) (hn : (n + 2) * 12 ≤ 140737488355328) :
    Goes 34 #[.pointer (some ⟨eb, 0, none⟩), .int .u32 (v : Nat)] (oEn eb vb bb pl n s) (pushE v s) (fun _ => .tuple #[]) (oEn eb vb bb pl (n + 2)) := by
 rintro w A T
 have HO := Lib.hid (oEn_ok T)
 have HT := Lib.hid (Hp.solo T)
 obtain ⟨k4, kf⟩ := (HT.out.cpu 0 rfl).esp
 obtain ⟨k83, -, kl⟩ := HT.out.en 0 rfl
 have hr4 := HO.out.r 4
 obtain ⟨a, ha⟩ : ∃ a, a = (s.C.r 4 + 4294967292) % 4294967296 := ⟨_, rfl⟩
 have HE := Lib.hid (pushE_eq v s a ha)
 have ha1 : ((s.C.r 4 : Int) - 4) % 4294967296 = (a : Int) := by omega
 have ha2 : a < 4294967296 := by omega
 have HA := Lib.hid (And.intro ha2 (And.intro hv hn))
 have c := oEn_store (eb := eb) (vb := vb) (bb := bb) (pl := pl) (n := n) (s := s) 2 a ha2 4 v hv hn
 obtain ⟨⟨f, R'⟩, hr⟩ : ∃ r, st s.R s.C 2 a 4 v = r := ⟨_, rfl⟩
 have hs : storeE 2 a 4 v s = if 0 ≤ f.vec then (.error f, ⟨s.C, R'⟩) else (.ok 0, ⟨s.C, R'⟩) := by unfold storeE toldE; rw [hr]
 rw [hr] at c
 have HC := Lib.hid (show Acts 65 #[.pointer (some ⟨vb, 0, none⟩), .pointer (some ⟨eb, 0, none⟩), .int .i64 2, .int .u32 (a : Nat), .int .i64 4, .int .u32 (v : Nat)] (oEn eb vb bb pl n s) (.agg #[.int .i64 f.vec, .int .i64 f.cd, .int .u32 (f.cr2 : Nat)]) (oEn eb vb bb pl (n + 2) ⟨s.C, R'⟩) from c)
 have HS := Lib.hid hs
 clear T ha hv hn c hr hs
 go_enter Tryz.func34, Tryz.ntmps34
 go_upto_region 1 with (fail)
 rw [ha1]
 go_still_tail 9, (by kernel_rfl)
 change wpList _ _ _ _ _ (w.drewN 1)
 have HT1 := Lib.hid (HT.out.drewN 1)
 clear k4 kf k83 kl
 generalize w.drewN 1 = w1 at *
 go_wp2_with fail
 refine (HT1.out.act 0 rfl HC.out).mono ?_
 rintro e w2 ⟨rfl, T2⟩
 have HT2 := Lib.hid (show Hp w A w2 [oEn eb vb bb pl (n + 2) ⟨s.C, R'⟩] from T2)
 clear T2 HT1
 by_cases hv : 0 ≤ f.vec
 ·have HV := Lib.hid (show pushE v s = (.error f, ⟨s.C, R'⟩) from HE.out.trans (Ex.then_no (show storeE 2 a 4 v s = (.error f, ⟨s.C, R'⟩) by rw [HS.out, if_pos hv])))
  go_wp2_with fail
  refine (pass_not f hv _).mono ?_
  rintro e w5 ⟨he, hb⟩
  unfold gaveX faultX at he
  subst he
  go_wp2_with fail
  exact ⟨rfl, goes_no (HT2.out.grow hb) HV.out⟩
 ·have HV := Lib.hid (show pushE v s = (.ok (), ⟨s.C.setR 4 a, R'⟩) from HE.out.trans (Ex.then_ok (show storeE 2 a 4 v s = (.ok 0, ⟨s.C, R'⟩) by rw [HS.out, if_neg hv])))
  go_wp2_with fail
  refine (pass_yes f (by omega) _).mono ?_
  rintro e w5 ⟨rfl, hb⟩
  have HT5 := Lib.hid (HT2.out.grow hb)
  obtain ⟨k4, kf⟩ := (HT5.out.cpu 0 rfl).esp
  have kl := (HT5.out.en 0 rfl).2.2
  have HT6 := Lib.hid (HT5.out.setC 0 rfl 4 (.int .u32 (a : Nat)) (env_setR s.C vb bb a) (setR_ok HO.out 4 a HA.out.1))
  clear hb HT2
  go_wp2_with fail
  go_end0
  exact goes_ok (enc := fun _ => .tuple #[]) HT6.out HV.out
end
end Go.Proofs.YtmpcafdgkbpneaaGreat

/- tlb: Drop. -/
namespace Go.Proofs.YtmpcafdgkbpneaaGreat
open Go.RowKit Go.MapKept
open Go.ChangeMaps (setBlock)
set_option linter.unusedVariables false

section
variable {w : World} {t rb mb places cnt : Nat} {S : Nat → Prop} {ov : Value} {all : PKey → Option Ent} {order : List PKey} {R : RS}
end
end Go.Proofs.YtmpcafdgkbpneaaGreat

/- tlb: a keeper with its memory as one object (as in TlbQ, without what speaks of the document). -/
namespace Go.Proofs.YtmpcafdgkbpneaaGreat
open Go.RowKit Go.MapKept
set_option linter.unusedVariables false

theorem Wide.wrk {R : RS} (h : Wide R) (a v k : Nat) : Wide (R.write a v k) := by
 induction k with
 | zero => exact h
 | succ k ih => exact (ih.wr _ _ (Nat.mod_lt _ (by decide))).1
theorem Wide.new (n : Nat) (h1 : 1 ≤ n) (h2 : n ≤ 256) : Wide (RS.new n) := ⟨RS.new_ok h1 h2, rfl⟩
theorem Wide.writes {R : RS} (h : Wide R) (at_ v : Nat → Nat) (k : Nat) : Wide (R.writes at_ v k) := by
 induction k with
 | zero => exact h
 | succ k ih => exact ih.wrk _ _ _
theorem Wide.romAt {R : RS} (h : Wide R) (n : Int) (x : Bool) : Wide (R.romAt n x) := by
 unfold RS.romAt
 split
 ·exact ⟨⟨h.ok.p1, h.ok.p2, h.ok.b⟩, h.c⟩
 ·exact h
theorem Wide.roms {R : RS} (h : Wide R) (o : Nat → Int) (k : Nat) : Wide (R.roms o k) := by
 induction k with
 | zero => exact h
 | succ k ih => exact ih.romAt _ _
theorem Wide.both (n : Int) (at_ v : Nat → Nat) (l : Nat) (o : Nat → Int) (k : Nat) : Wide (bothR n at_ v l o k) := by
 obtain ⟨h1, h2⟩ := bothPages_ok n
 exact ((Wide.new _ h1 (by omega)).writes at_ v l).roms o k
def Kp (w : World) (t rb places n cnt : Nat) (H : Nat → Prop) (R : RS) : Prop :=
 ∃ mb S ov all order, TlbIn w t rb mb S ov places cnt all order R ∧ order.length ≤ n ∧ ∀ k, H k ↔ THeld t mb S ov k
section
variable {w w' : World} {t rb places n cnt : Nat} {H : Nat → Prop} {R : RS}
theorem tl_new {b : Nat} {S : Nat → Prop} (h : Ram w b S R) (hw : Wide R) (m : Nat) (hm : m ≤ 64) (x : Int) (hx : x = (m : Int)) : Calls Tryz.prog 73 #[.pointer (some ⟨b, 0, none⟩), .int .i64 x] w fun e w' =>
    ∃ t H, e = .returned (.tuple #[.pointer (some ⟨t, 0, none⟩), .int .i64 0]) ∧ Kp w' t b m 0 0 H R ∧ Moves S H w w' ∧ Below w.heap.size w w' := by
 rw [hx]
 refine (tnew_any h hw m hm).mono ?_
 rintro e w' ⟨he, T', B'⟩
 refine ⟨_, _, he, ⟨_, S, _, _, [], T', Nat.le_refl _, fun k => Iff.rfl⟩, ⟨Keeps.ofBelow B', fun k hk => ?_⟩, B'⟩
 rcases hk with h | h | h | h
 ·exact .inr (by omega)
 ·exact .inr (by omega)
 ·cases h
 ·exact .inl h
end
end Go.Proofs.YtmpcafdgkbpneaaGreat

/- VmQ, VmS, VmT, VmU, VmW, together. -/
/- vmem: calls on none, or of no processor. -/
namespace Go.Proofs.YtmpcafdgkbpneaaGreat
open Go.RowKit Go.MapKept
set_option linter.unusedVariables false
set_option linter.unusedSimpArgs false
attribute [local go_sem ↓] Go.wp_at_zero Go.wp_at_succ

section
variable {w w1 w' w2 : World} {g : Nat} {f f' : FaultS}
theorem vnew_any {b : Nat} {S : Nat → Prop} {R : RS} (h : Ram w b S R) (hw : Wide R) (m : Nat) (hm : m ≤ 64) (x : Int) (hx : x = (m : Int)) : Calls Tryz.prog 37 #[.pointer (some ⟨b, 0, none⟩), .int .i64 x] w fun e w' =>
    ∃ vb H, e = .returned (.tuple #[.pointer (some ⟨vb, 0, none⟩), .int .i64 0]) ∧ Vm w' vb ⟨m, b⟩ 0 H R ∧ Moves S H w w' := by
 have HN := Lib.hid (tl_new h hw m hm x hx)
 clear h hx hw hm
 go_enter Tryz.func37, Tryz.ntmps37
 go_wp2_with fail
 refine HN.out.mono ?_
 rintro e w1 ⟨tb, H, rfl, hT, hM, -⟩
 have HT := Lib.hid (And.intro hT hM)
 clear hT hM
 go_wp2_with fail
 go_ret2
 obtain ⟨hT, hM⟩ := HT.out
 have hK : Kq w1 tb b ⟨m, b⟩ 0 H R := by
  obtain ⟨mb, S', ov, all, order, T, hl, hH⟩ := hT
  exact ⟨mb, S', ov, 0, all, order, T, ⟨hl, rfl⟩, hH⟩
 refine ⟨w1.heap.size, fun k => k = w1.heap.size ∨ H k, rfl, ⟨tb, b, H, heap_new w1 _, hK.of_heap fun k hk => Below.heap_alloc _ _ _ (hK.lt k hk), fun h => by have := hK.lt _ h; omega, fun k => Iff.rfl⟩, ?_⟩
 have hM2 : Moves S H w (w1.alloc (.cells #[.pointer (some ⟨b, 0, none⟩), .pointer (some ⟨tb, 0, none⟩)] 89)) := hM.below ((Below.refl _ _).alloc (Nat.le_refl _) _)
 refine ⟨hM2.1, fun k hk => ?_⟩
 rcases hk with rfl | hk
 ·exact .inr hM.1.size
 ·exact hM.2 k hk
theorem vram_any {vb : Nat} {places : Pl} {n : Nat} {H : Nat → Prop} {R : RS} (h : Vm w vb places n H R) : Calls Tryz.prog 12 #[.pointer (some ⟨vb, 0, none⟩)] w fun e w' => (e = .returned (.pointer (some ⟨places.rb, 0, none⟩)) ∧ ∃ S, Ram w places.rb S R) ∧ w = w' := by
 obtain ⟨tb, rb, G, ho, hK, _, _⟩ := h
 obtain ⟨S, hR, _⟩ := hK.ram
 have hrb : rb = places.rb := by obtain ⟨_, _, _, _, _, _, _, hl, _⟩ := hK; exact hl.2
 subst hrb
 have HR := Lib.hid hR
 have c0 := cell_at (k := 0) ho
 have cl := heap_lt ho
 simp at c0
 clear ho hK hR
 go_enter Tryz.func12, Tryz.ntmps12
 go_wp2_with fail
 go_ret
 exact ⟨⟨rfl, S, HR.out⟩, rfl⟩
end
end Go.Proofs.YtmpcafdgkbpneaaGreat

/- vmem: Flat. -/
namespace Go.Proofs.YtmpcafdgkbpneaaGreat
open Go.RowKit Go.MapKept
set_option linter.unusedVariables false

def flatSeg (sel : Nat) (typ k : Int) : SegR := ⟨sel, false, 0, 4294967295, typ, false, k, true, true⟩
def noSeg : SegR := ⟨0, false, 0, 0, 0, false, 0, false, false⟩
def flatC (k : Int) : CpuS :=
 {r := fun _ => 0, eip := 0, flags := 2, seg := fun i => if i = 1 then flatSeg ((8 + k) % 65536).toNat 10 k else flatSeg ((16 + k) % 65536).toNat 2 k, cr0 := 1, cr2 := 0, cr3 := 0, gb := 0, gl := 0, ib := 0, il := 0, tr := noSeg, shadow := false, halted := false, dead := false }
theorem wrap_sel (k m : Int) : IntKind.u16.wrap (m + IntKind.u16.wrap k) = (((m + k) % 65536).toNat : Int) := by
 rw [IntKind.wrap_u16, IntKind.wrap_u16]; omega
theorem info83 : (Tryz.prog.info? 36).map (·.size) = some 83 := by kernel_rfl
def zero83C : Array Value := #[.int .u32 0, .int .u32 0, .int .u32 0, .int .u32 0, .int .u32 0, .int .u32 0, .int .u32 0, .int .u32 0, .int .u32 0, .int .u32 0, .int .u16 0, .bool false, .int .u32 0, .int .u32 0, .int .i64 0, .bool false, .int .i64 0, .bool false, .bool false, .int .u16 0, .bool false, .int .u32 0, .int .u32 0, .int .i64 0, .bool false, .int .i64 0, .bool false, .bool false, .int .u16 0, .bool false, .int .u32 0, .int .u32 0, .int .i64 0, .bool false, .int .i64 0, .bool false, .bool false, .int .u16 0, .bool false, .int .u32 0, .int .u32 0, .int .i64 0, .bool false, .int .i64 0, .bool false, .bool false, .int .u16 0, .bool false, .int .u32 0, .int .u32 0, .int .i64 0, .bool false, .int .i64 0, .bool false, .bool false, .int .u16 0, .bool false, .int .u32 0, .int .u32 0, .int .i64 0, .bool false, .int .i64 0, .bool false, .bool false, .int .u32 0, .int .u32 0, .int .u32 0, .int .u32 0, .int .u16 0, .int .u32 0, .int .u16 0, .int .u16 0, .bool false, .int .u32 0, .int .u32 0, .int .i64 0, .bool false, .int .i64 0, .bool false, .bool false, .bool false, .bool false, .bool false]
set_option maxRecDepth 100000 in
theorem zero83 (w : World) : (zeroValue 36).run Tryz.prog w = .ok (.agg #[.int .u32 0, .int .u32 0, .int .u32 0, .int .u32 0, .int .u32 0, .int .u32 0, .int .u32 0, .int .u32 0, .int .u32 0, .int .u32 0, .int .u16 0, .bool false, .int .u32 0, .int .u32 0, .int .i64 0, .bool false, .int .i64 0, .bool false, .bool false, .int .u16 0, .bool false, .int .u32 0, .int .u32 0, .int .i64 0, .bool false, .int .i64 0, .bool false, .bool false, .int .u16 0, .bool false, .int .u32 0, .int .u32 0, .int .i64 0, .bool false, .int .i64 0, .bool false, .bool false, .int .u16 0, .bool false, .int .u32 0, .int .u32 0, .int .i64 0, .bool false, .int .i64 0, .bool false, .bool false, .int .u16 0, .bool false, .int .u32 0, .int .u32 0, .int .i64 0, .bool false, .int .i64 0, .bool false, .bool false, .int .u16 0, .bool false, .int .u32 0, .int .u32 0, .int .i64 0, .bool false, .int .i64 0, .bool false, .bool false, .int .u32 0, .int .u32 0, .int .u32 0, .int .u32 0, .int .u16 0, .int .u32 0, .int .u16 0, .int .u16 0, .bool false, .int .u32 0, .int .u32 0, .int .i64 0, .bool false, .int .i64 0, .bool false, .bool false, .bool false, .bool false, .bool false]) w := by kernel_rfl
set_option maxRecDepth 100000 in
theorem flat_one (k : Int) : (flatC k).cells.toArray.all (·.oneCell') = true := by kernel_rfl
set_option maxRecDepth 100000 in
theorem flat_any (ring : Int) (w : World) :
    Calls Tryz.prog 21 #[.int .i64 ring] w fun e w' => e = .returned (.agg (flatC (ring.tmod 4)).cells.toArray) ∧ Below w.heap.size w w' := by
 generalize hk : ring.tmod 4 = k
 have hz := fun w => zero83 w
 go_enter Tryz.func21, Tryz.ntmps21
 go_wp2_with fail
 refine wp_loop_rounds 7 ?_
 rw [rounds_succ]
 go_wp2_with fail
 rw [rounds_succ]
 go_wp2_with fail
 rw [rounds_succ]
 go_wp2_with fail
 rw [rounds_succ]
 go_wp2_with fail
 rw [rounds_succ]
 go_wp2_with fail
 rw [rounds_succ]
 go_wp2_with fail
 rw [rounds_succ]
 go_upto_region 12 with (fail)
 rw [hk] at *
 simp only [wrap_sel]
 have hc := heap_alloc_lt (o' := .cells #[.int .u32 0, .int .u32 4294967295, .int .i64 2, .bool false, .int .i64 k, .bool true, .bool true] 29) (heap_alloc_lt (o' := .cells #[.int .u32 0, .int .u32 4294967295, .int .i64 10, .bool false, .int .i64 k, .bool true, .bool true] 29) (heap_new (w.alloc (.cells zero83C 36)) (.cells (flatC k).cells.toArray 36)))
 have hr := heap_alloc_lt (o' := .cells #[.int .u32 0, .int .u32 4294967295, .int .i64 2, .bool false, .int .i64 k, .bool true, .bool true] 29) (heap_alloc_lt (o' := .cells #[.int .u32 0, .int .u32 4294967295, .int .i64 10, .bool false, .int .i64 k, .bool true, .bool true] 29) (heap_alloc_lt (o' := .cells (flatC k).cells.toArray 36) (heap_new w (.cells zero83C 36))))
 have hb : Below w.heap.size w ((((w.alloc (.cells zero83C 36)).alloc (.cells (flatC k).cells.toArray 36)).alloc (.cells #[.int .u32 0, .int .u32 4294967295, .int .i64 10, .bool false, .int .i64 k, .bool true, .bool true] 29)).alloc (.cells #[.int .u32 0, .int .u32 4294967295, .int .i64 2, .bool false, .int .i64 k, .bool true, .bool true] 29)) := ((((Below.refl _ _).alloc (Nat.le_refl _) _).alloc (by simp) _).alloc (by simp; omega) _).alloc (by simp; omega) _
 change Code.wp _ _ _ _ ((((w.alloc (.cells zero83C 36)).alloc (.cells (flatC k).cells.toArray 36)).alloc (.cells #[.int .u32 0, .int .u32 4294967295, .int .i64 10, .bool false, .int .i64 k, .bool true, .bool true] 29)).alloc (.cells #[.int .u32 0, .int .u32 4294967295, .int .i64 2, .bool false, .int .i64 k, .bool true, .bool true] 29))
 simp only [show (w.alloc (.cells zero83C 36)).heap.size = w.heap.size + 1 by simp] at hc
 have HB := Lib.hid hb
 have HC := Lib.hid hc
 have HR := Lib.hid hr
 clear hb hc hr hz
 generalize (((w.alloc (.cells zero83C 36)).alloc (.cells (flatC k).cells.toArray 36)).alloc (.cells #[.int .u32 0, .int .u32 4294967295, .int .i64 10, .bool false, .int .i64 k, .bool true, .bool true] 29)).alloc (.cells #[.int .u32 0, .int .u32 4294967295, .int .i64 2, .bool false, .int .i64 k, .bool true, .bool true] 29) = W at *
 go_wp2_with (first | (refine wpList_load_row rfl _ _ rfl (w.heap.size + 1) rfl _ _ _ _ HC.out Tryz.underlying36 rfl info83 ?_) | (refine wpList_store_row rfl _ _ _ rfl w.heap.size (flatC k).cells.toArray rfl rfl _ _ HR.out info83 rfl (flat_one k) ?_))
 refine bodyPost_ret (v := .agg (flatC k).cells.toArray) (results_cell_row rfl _ _ w.heap.size _ _ _ _ rfl (setRow_heap W _ _ _ _ _ HR.out) Tryz.underlying36 rfl info83) rfl ⟨rfl, ?_⟩
 exact below_setRow HB.out (Nat.le_refl _) _
end Go.Proofs.YtmpcafdgkbpneaaGreat

/- vmem: one of up to three objects, and boxes; the head of all statements. -/
namespace Go.Proofs.YtmpcafdgkbpneaaGreat
open Go.RowKit Go.MapKept
set_option linter.unusedVariables false

section
variable {w0 w w' wF : World} {PB PC : World → (Nat → Prop) → Prop} {F : Nat → Prop} {vb cb : Nat} {places : Pl} {n : Nat} {R R' : RS} {C : CpuS}
end
theorem z32 : (0 : Nat) < 4294967296 := by decide
theorem z16 : (0 : Nat) < 65536 := by decide
theorem CpuAt.of_block {w : World} {b : Nat} {C : CpuS} {T : TypeId} (ok : C.ok) (h : w.heap[b]? = some (.cells C.cells.toArray T (0, 0))) : CpuAt w b C := ⟨ok, [], T, by rw [List.append_nil]; exact h⟩
end Go.Proofs.YtmpcafdgkbpneaaGreat

/- vmem: the head of all statements. -/
namespace Go.Proofs.YtmpcafdgkbpneaaGreat
open Go.RowKit Go.MapKept
set_option linter.unusedVariables false

end Go.Proofs.YtmpcafdgkbpneaaGreat

/- vmem: up to three objects, and boxes with what they hold. -/
namespace Go.Proofs.YtmpcafdgkbpneaaGreat
open Go.RowKit Go.MapKept
set_option linter.unusedVariables false

section
variable {w W W' : World} {L : List (Nat × Obj)}
end
def cpuO (C : CpuS) : Obj := .cells C.cells.toArray 36
def TB (w0 w : World) (PA PB PC : World → (Nat → Prop) → Prop) (L : List (Nat × Obj)) : Prop := Tri w0 w PA PB PC (fun k => ∃ o, (k, o) ∈ L) w ∧ ∀ p ∈ L, w.heap[p.1]? = some p.2
section
variable {w0 w w' wF : World} {PA PA' PB PC : World → (Nat → Prop) → Prop} {L : List (Nat × Obj)} {vb cb : Nat} {places : Pl} {n : Nat} {R R' : RS} {C : CpuS}
end
end Go.Proofs.YtmpcafdgkbpneaaGreat

