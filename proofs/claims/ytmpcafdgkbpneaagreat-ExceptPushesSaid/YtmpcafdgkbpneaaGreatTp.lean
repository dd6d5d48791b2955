/- Steps of a proof: ExLaw, ExPl, ExEnt, ExPu, ExPx, VmIn, together. -/
import Derived.Test.YtmpcafdgkbpneaaGreatS40
import Derived.Test.YtmpcafdgkbpneaaGreatS39
import Derived.Maps.AppendAt
import Derived.Test.YtmpcafdgkbpneaaGreatS8
import Derived.Test.YtmpcafdgkbpneaaGreatS32
import Derived.Test.YtmpcafdgkbpneaaGreatS0
/- except's laws: what their walks lean on. -/
namespace Go.Proofs.YtmpcafdgkbpneaaGreat
open Go.RowKit Go.MapKept
set_option linter.unusedVariables false

section
variable {w0 w w' w1 w2 : World} {A0 : Nat → Prop} {os os' : List Ob} {o : Ob}
theorem Hp.join (T : Hp w0 A0 w1 os) (U : Hp w1 (fun _ => False) w2 os') : Hp w0 A0 w2 (os' ++ os) := by
 have hb := U.below
 obtain ⟨A, a, M⟩ := U
 have h := T.new hb (o := Ob.all os') (A := A) a fun k hk => (M.2 k hk).elim False.elim id
 exact (Hp.rot h).open_
end
def vecN (v : Int) : Int := if v < 0 then -(v + 1) else v
theorem vecN_pos (v : Int) : 0 ≤ vecN v := by unfold vecN; split <;> omega
theorem vecN_mod (v : Int) (k : Nat) (hk : 0 < k) : ∃ n : Nat, n < k ∧ vecN v % (k : Int) = (n : Int) := by
 have h1 := Int.emod_nonneg (vecN v) (show (k : Int) ≠ 0 by omega)
 have h2 := Int.emod_lt_of_pos (vecN v) (show (0 : Int) < k by omega)
 exact ⟨(vecN v % (k : Int)).toNat, by omega, by omega⟩
theorem env_fl (C : CpuS) (vb bb f : Nat) : (envCells C vb bb).setIfInBounds 9 (.int .u32 (f : Nat)) = envCells { C with flags := f } vb bb := by kernel_rfl
theorem env_ip (C : CpuS) (vb bb f : Nat) : (envCells C vb bb).setIfInBounds 8 (.int .u32 (f : Nat)) = envCells { C with eip := f } vb bb := by kernel_rfl
end Go.Proofs.YtmpcafdgkbpneaaGreat

/- except's laws, plainly: words of a memory without pages; what a delivery does over the laws' tables. -/
namespace Go.Proofs.YtmpcafdgkbpneaaGreat
open Go.RowKit
set_option linter.unusedVariables false

theorem first4 (a : Nat) (h : a % 4096 ≤ 4092) : first a 4 = 4 := by unfold first; omega
theorem put_word (R : RS) (a v : Nat) (h : a % 4096 ≤ 4092) : putN R ⟨a, lin2 a 4, first a 4, 4 - first a 4⟩ v (first a 4 + (4 - first a 4)) = R.write a v 4 := by
 rw [first4 a h]; rfl
theorem get_word (R : RS) (a : Nat) (h : a % 4096 ≤ 4092) : getN R ⟨a, lin2 a 4, first a 4, 4 - first a 4⟩ (first a 4 + (4 - first a 4)) = R.read a 4 := by
 rw [first4 a h]; rfl
theorem pg_flat {R : RS} {C : CpuS} (hp : C.paged = false) (lin size : Nat) (wr us : Bool) : pg R C lin size wr us = (.ok ⟨lin, lin2 lin size, first lin size, size - first lin size⟩, R) := by
 unfold pg
 rw [hp]
 rfl
theorem tell_ok (v : Nat) (R : RS) (s : Es) : toldE ((v, noF), R) s = (.ok v, ⟨s.C, R⟩) := by
 unfold toldE
 exact if_neg (show ¬ (0 : Int) ≤ -1 by decide)
section
variable {s : Es} {a : Nat}
theorem sys_word (hp : s.C.paged = false) (h : a % 4096 ≤ 4092) : sysE a 4 s = (.ok (s.R.read a 4), s) := by
 show toldE (ldOf (sy s.R s.C a ((4 : Nat) : Int) false)) s = _
 rw [sy_yes (.inr (.inr rfl)), pg_flat hp]
 show toldE ((getN s.R ⟨a, lin2 a 4, first a 4, 4 - first a 4⟩ (first a 4 + (4 - first a 4)), noF), s.R) s = _
 rw [get_word _ _ h, tell_ok]
theorem sg_flat {R : RS} {C : CpuS} (hp : C.paged = false) (hn : (C.seg 2).nul = false) (hb : (C.seg 2).base = 0) (wr : Bool) (hr : (C.seg 2).reach a 4 wr = true) (ha : a < 4294967296) :
    sg R C 2 a 4 wr = (.ok ⟨a, lin2 a 4, first a 4, 4 - first a 4⟩, R) := by
 unfold sg
 rw [if_pos ⟨.inr (.inr rfl), by decide, by decide⟩]
 show sg2 R C 2 a 4 wr = _
 unfold sg2
 rw [if_pos ⟨hn, hr⟩, hb, pg_flat hp, Nat.zero_add, Nat.mod_eq_of_lt ha]
 rfl
structure Stk (C : CpuS) : Prop where
 p : C.paged = false
 n : (C.seg 2).nul = false
 b : (C.seg 2).base = 0
 l : (C.seg 2).lim = 4294967295
 t : (C.seg 2).typ = 2
 s : (C.seg 2).sys = false
 e : (C.seg 2).pre = true
 g : (C.seg 2).big = true
theorem Stk.reach {C : CpuS} (h : Stk C) (wr : Bool) (ha : a ≤ 4294967292) : (C.seg 2).reach a 4 wr = true := by
 unfold SegR.reach
 rw [h.l, h.t, h.s, h.e, h.g]
 unfold Go.Proofs.YtmpcafdgkbpneaaGreat.reach
 rw [show lR 2 false = true from rfl, show lW 2 false = true from rfl, show lD 2 false = false from rfl]
 have h1 : decide ((a : Int) + ((4 : Nat) : Int) - 1 ≤ ((4294967295 : Nat) : Int)) = true := by rw [decide_eq_true_eq]; omega
 cases wr <;> simpa using h1
theorem store_word (h : Stk s.C) (ha : a ≤ 4294967292) (h4 : a % 4096 ≤ 4092) (v : Nat) : storeE 2 a 4 v s = (.ok 0, ⟨s.C, s.R.write a v 4⟩) := by
 show toldE ((0, (st s.R s.C 2 a 4 v).1), (st s.R s.C 2 a 4 v).2) s = _
 rw [st_ok (sg_flat h.p h.n h.b true (h.reach true ha) (by omega))]
 show toldE ((0, noF), putN s.R ⟨a, lin2 a 4, first a 4, 4 - first a 4⟩ v (first a 4 + (4 - first a 4))) s = _
 rw [put_word _ _ _ h4, tell_ok]
theorem push_word (h : Stk s.C) (he : (s.C.r 4 + 4294967292) % 4294967296 = a) (ha : a ≤ 4294967292) (h4 : a % 4096 ≤ 4092) (v : Nat) : pushE v s = (.ok (), ⟨s.C.setR 4 a, s.R.write a v 4⟩) := by
 unfold pushE
 show (storeE 2 ((s.C.r 4 + 4294967292) % 4294967296) 4 v).then _ s = _
 rw [he, Ex.then_ok (store_word h ha h4 v)]
 rfl
end
structure Tabs (R : RS) (kind : Nat) : Prop where
 plain : Plain R
 size : R.size = 65536
 gate : ∀ v, v < 64 → R.read (3072 + 8 * v) 4 = 548864 + 16 * v ∧ R.read (3076 + 8 * v) 4 = kind
 d8 : R.read 2056 4 = 65535 ∧ R.read 2060 4 = 13605376
 d16 : R.read 2064 4 = 65535 ∧ R.read 2068 4 = 13603328
 d24 : R.read 2072 4 = 65535 ∧ R.read 2076 4 = 13629952
 d32 : R.read 2080 4 = 65535 ∧ R.read 2084 4 = 13627904
 task : R.read 2564 4 = 40704 ∧ R.read 2568 4 = 16
theorem Tabs.write {R : RS} {kind : Nat} (h : Tabs R kind) (a v : Nat) (h0 : 4096 ≤ a) (h1 : a < 65536) (h4 : a % 4 = 0) : Tabs (R.write a v 4) kind := by
 have g := h.plain.write4 a v (by omega) h4
 have k : ∀ b, b < 4096 → b % 4 = 0 → (R.write a v 4).read b 4 = R.read b 4 := fun b hb hb4 => h.plain.read_other a b v (by omega) h4 (by omega) hb4 (by omega)
 refine ⟨g.1, g.2.1.trans h.size, fun v hv => ?_, ?_, ?_, ?_, ?_, ?_⟩
 ·rw [k _ (by omega) (by omega), k _ (by omega) (by omega)]; exact h.gate v hv
 ·rw [k _ (by decide) (by decide), k _ (by decide) (by decide)]; exact h.d8
 ·rw [k _ (by decide) (by decide), k _ (by decide) (by decide)]; exact h.d16
 ·rw [k _ (by decide) (by decide), k _ (by decide) (by decide)]; exact h.d24
 ·rw [k _ (by decide) (by decide), k _ (by decide) (by decide)]; exact h.d32
 ·rw [k _ (by decide) (by decide), k _ (by decide) (by decide)]; exact h.task
theorem Tabs.same {R : RS} {kind : Nat} (h : Tabs R kind) (a v : Nat) (h1 : a < 65536) (h4 : a % 4 = 0) (hv : v < 4294967296) : (R.write a v 4).read a 4 = v := h.plain.read_same a v (by omega) h4 (by rw [h.size]; exact h1) hv
theorem Tabs.other {R : RS} {kind : Nat} (h : Tabs R kind) (a b v : Nat) (ha : a < 65536) (h4 : a % 4 = 0) (hb : b < 65536) (hb4 : b % 4 = 0) (hne : a ≠ b) : (R.write a v 4).read b 4 = R.read b 4 := h.plain.read_other a b v (by omega) h4 (by omega) hb4 hne
def chkT (kind : Nat) : Bool := ((List.range 64).all fun v => (startR kind).read (3072 + 8 * v) 4 == 548864 + 16 * v && (startR kind).read (3076 + 8 * v) 4 == kind) &&
 ((startR kind).read 2056 4 == 65535 && (startR kind).read 2060 4 == 13605376 && (startR kind).read 2064 4 == 65535 && (startR kind).read 2068 4 == 13603328 && (startR kind).read 2072 4 == 65535 && (startR kind).read 2076 4 == 13629952 && (startR kind).read 2080 4 == 65535 && (startR kind).read 2084 4 == 13627904 && (startR kind).read 2564 4 == 40704 && (startR kind).read 2568 4 == 16)
theorem wr_pages (R : RS) (a v : Nat) : (R.wr a v).pages = R.pages := by unfold RS.wr; split <;> rfl
theorem write_pages (R : RS) (a v : Nat) : ∀ k, (R.write a v k).pages = R.pages
 | 0 => rfl
 | k + 1 => (wr_pages _ _ _).trans (write_pages R a v k)
theorem writes_pages (R : RS) (at_ v : Nat → Nat) : ∀ k, (R.writes at_ v k).pages = R.pages
 | 0 => rfl
 | k + 1 => (write_pages _ _ _ _).trans (writes_pages R at_ v k)
theorem start_pages (kind : Nat) : (startR kind).pages = 16 := writes_pages (RS.new 16) tabA (tabV kind) 138
theorem Tabs.of {kind : Nat} (h : chkT kind = true) : Tabs (startR kind) kind := by
 unfold chkT at h
 simp only [Bool.and_eq_true, beq_iff_eq] at h
 obtain ⟨h0, h1⟩ := h
 have hs : (startR kind).size = 65536 := by
  unfold RS.size
  rw [start_pages]
 refine ⟨Plain.both 16 tabA (tabV kind) 138 (fun _ => 0), hs, fun v hv => ?_, ?_, ?_, ?_, ?_, ?_⟩
 ·have := List.all_eq_true.1 h0 v (List.mem_range.2 hv)
  simpa only [Bool.and_eq_true, beq_iff_eq] using this
 all_goals simp only [h1, and_self]
theorem tabs8E : Tabs (startR 36352) 36352 := Tabs.of (by kernel_rfl)
theorem tabs8F : Tabs (startR 36608) 36608 := Tabs.of (by kernel_rfl)
end Go.Proofs.YtmpcafdgkbpneaaGreat

/- except's laws, plainly: a delivery over the laws' tables. -/
namespace Go.Proofs.YtmpcafdgkbpneaaGreat
open Go.RowKit
set_option linter.unusedVariables false

structure Cst (C : CpuS) : Prop where
 p : C.paged = false
 gb : C.gb = 2048
 gl : C.gl = 47
 ib : C.ib = 3072
 il : C.il = 511
section
variable {s : Es} {kind v : Nat}
theorem desc_of (h : Cst s.C) (sel lo hi : Nat) (d : SegR) (hs : sel / 4 % 2 = 0) (hl : sel - sel % 8 + 7 ≤ 47) (h1 : s.R.read (2048 + (sel - sel % 8)) 4 = lo) (h2 : s.R.read (2048 + (sel - sel % 8) + 4) 4 = hi) (hd : SegR.of sel lo hi = d) (vec cd : Int) : descE sel vec cd s = (.ok d, s) := by
 have e1 : (s.C.gb + (sel - sel % 8)) % 4294967296 = 2048 + (sel - sel % 8) := by rw [h.gb]; omega
 have e2 : (2048 + (sel - sel % 8) + 4) % 4294967296 = 2048 + (sel - sel % 8) + 4 := by omega
 unfold descE
 show (needE (sel / 4 % 2 == 0 && decide (sel - sel % 8 + 7 ≤ s.C.gl)) vec cd).then _ s = _
 rw [Ex.then_ok (need_ok (by rw [h.gl, hs]; simp; omega) vec cd s), e1, e2, Ex.then_ok (sys_word h.p (by omega)), Ex.then_ok (sys_word h.p (by omega)), h1, h2, hd]
 rfl
def d8 : SegR := ⟨8, false, 0, 4294967295, 10, false, 0, true, true⟩
def d16 : SegR := ⟨16, false, 0, 4294967295, 2, false, 0, true, true⟩
theorem desc8 (T : Tabs s.R kind) (h : Cst s.C) (vec cd : Int) : descE 8 vec cd s = (.ok d8, s) := desc_of h 8 65535 13605376 d8 rfl (by decide) T.d8.1 T.d8.2 (by kernel_rfl) vec cd
theorem enter_flat (T : Tabs s.R kind) (h : Cst s.C) (hv : v < 64) (num : Int) (soft : Bool) {k : Nat} (hk : kind / 256 % 32 = k) (h14 : k = 14 ∨ k = 15) (hp : kind / 32768 % 2 = 1) (hs : soft = true → s.C.ring ≤ kind / 8192 % 4) (hlt : kind < 65536) :
    enterE (v : Nat) num soft s = enter3 num (xOf soft) k 8 (24576 + 16 * v) d8 s := by
 have e1 : (s.C.ib + 8 * v) % 4294967296 = 3072 + 8 * v := by rw [h.ib]; omega
 have e2 : (s.C.ib + (8 * v + 4)) % 4294967296 = 3076 + 8 * v := by rw [h.ib]; omega
 have e3 : (548864 + 16 * v) / 65536 = 8 := by omega
 have e4 : (548864 + 16 * v) % 65536 = 24576 + 16 * v := by omega
 have e5 : kind / 65536 = 0 := by omega
 unfold enterE
 rw [Ex.then_ok (need_ok (by simp; omega) 13 0 s), Int.toNat_natCast]
 unfold enter1
 show (needE (decide (8 * v + 7 ≤ s.C.il)) 13 (8 * (v : Int) + 2 + xOf soft)).then _ s = _
 rw [Ex.then_ok (need_ok (by rw [h.il]; simp; omega) _ _ s), e1, e2, Ex.then_ok (sys_word h.p (by omega)), Ex.then_ok (sys_word h.p (by omega)), (T.gate v hv).1, (T.gate v hv).2]
 unfold enter2
 show (needE ((kind / 256 % 32 == 14 || kind / 256 % 32 == 15) && (!soft || decide (s.C.ring ≤ kind / 8192 % 4))) 13 (8 * (v : Int) + 2 + xOf soft)).then _ s = _
 have c1 : ((kind / 256 % 32 == 14 || kind / 256 % 32 == 15) && (!soft || decide (s.C.ring ≤ kind / 8192 % 4))) = true := by
  rw [hk]
  have c2 : (k == 14 || k == 15) = true := by rcases h14 with rfl | rfl <;> rfl
  rw [c2]
  cases soft
  ·rfl
  ·simp [hs rfl]
 rw [Ex.then_ok (need_ok c1 _ _ s), Ex.then_ok (need_ok (by rw [hp]; rfl) _ _ s), e3, Ex.then_ok (need_ok (by rfl) _ _ s), Ex.then_ok (desc8 T h _ _), Ex.then_ok (need_ok (by
  show (d8.isCode && decide ((0 : Int) ≤ s.C.ring)) = true
  rw [show d8.isCode = true by kernel_rfl]
  simp) _ _ s), Ex.then_ok (need_ok (by rfl) _ _ s), e4, e5, Nat.zero_mul, Nat.add_zero, Ex.then_ok (need_ok (by
  show decide (24576 + 16 * v ≤ 4294967295) = true
  simp; omega) _ _ s), hk]
end
end Go.Proofs.YtmpcafdgkbpneaaGreat

/- except's law Pushes, plainly. -/
namespace Go.Proofs.YtmpcafdgkbpneaaGreat
open Go.RowKit
set_option linter.unusedVariables false

theorem setR_setR (C : CpuS) (i a b : Nat) : (C.setR i a).setR i b = C.setR i b := by
 unfold CpuS.setR
 congr 1
 funext j
 by_cases h : j = i <;> simp [h]
theorem Stk.setR {C : CpuS} (h : Stk C) (v : Nat) : Stk (C.setR 4 v) := ⟨h.p, h.n, h.b, h.l, h.t, h.s, h.e, h.g⟩
theorem Stk.setCs {C : CpuS} (h : Stk C) (d : SegR) : Stk (C.setSeg 1 d) := ⟨h.p, h.n, h.b, h.l, h.t, h.s, h.e, h.g⟩
theorem push_at {s : Es} (h : Stk s.C) {a : Nat} (he : s.C.r 4 = a + 4) (ha : a ≤ 4294967288) (h4 : a % 4 = 0) (v : Nat) : pushE v s = (.ok (), ⟨s.C.setR 4 a, s.R.write a v 4⟩) :=
 push_word h (by rw [he]; omega) (by omega) (by omega) v
def R3 (R : RS) (a f c p : Nat) : RS := ((R.write (a + 12) f 4).write (a + 8) c 4).write (a + 4) p 4
def R4 (R : RS) (a f c p : Nat) (num : Int) : RS := if 0 ≤ num then (R3 R a f c p).write a (num % 4294967296).toNat 4 else R3 R a f c p
def E4 (a : Nat) (num : Int) : Nat := if 0 ≤ num then a else a + 4
theorem pushes_same {s : Es} (h : Stk s.C) {a : Nat} (he : s.C.r 4 = a + 16) (ha : a ≤ 4294967000) (h4 : a % 4 = 0) (old : CpuS) (num : Int) :
    pushesE old false num s = (.ok (), ⟨s.C.setR 4 (E4 a num), R4 s.R a old.flags (old.seg 1).sel old.eip num⟩) := by
 unfold pushesE
 rw [Ex.then_ok (show whenE false _ s = (.ok (), s) from rfl),
  Ex.then_ok (push_at h (a := a + 12) he (by omega) (by omega) old.flags),
  Ex.then_ok (push_at (h.setR _) (a := a + 8) rfl (by omega) (by omega) (old.seg 1).sel),
  Ex.then_ok (push_at ((h.setR _).setR _) (a := a + 4) rfl (by omega) (by omega) old.eip)]
 unfold E4 R4
 by_cases hn : 0 ≤ num
 ·rw [decide_eq_true hn, if_pos hn, if_pos hn]
  show pushE _ _ = _
  rw [push_at (((h.setR _).setR _).setR _) (a := a) rfl (by omega) h4]
  show _ = (Except.ok (), Es.mk (s.C.setR 4 a) _)
  simp only [setR_setR]
  rfl
 ·rw [decide_eq_false hn, if_neg hn, if_neg hn]
  show (Except.ok (), Es.mk (((s.C.setR 4 (a + 12)).setR 4 (a + 8)).setR 4 (a + 4)) _) = _
  simp only [setR_setR]
  rfl
theorem d8_conf : d8.conf = false := by kernel_rfl
theorem d8_ring (r : Nat) : toRing d8 r = 0 := by
 unfold toRing
 rw [d8_conf]
 by_cases h : (d8.dpl : Int) < r
 ·rw [decide_eq_true h]; rfl
 ·rw [decide_eq_false h]
  have h : ¬ (0 : Int) < r := h
  simp only [Bool.not_false, Bool.true_and, Bool.false_eq_true, if_false]
  omega
theorem enter3_same {s : Es} (hr : s.C.ring = 0) (h : Stk s.C) {a : Nat} (he : s.C.r 4 = a + 16) (ha : a ≤ 4294967000) (h4 : a % 4 = 0) (num x : Int) (k place : Nat) :
    enter3 num x k 8 place d8 s = (.ok (), ⟨((s.C.setSeg 1 d8).setR 4 (E4 a num)).placed place k, R4 s.R a s.C.flags (s.C.seg 1).sel s.C.eip num⟩) := by
 unfold enter3
 show (whenE (!d8.conf && decide (d8.dpl < s.C.ring)) (innerE (toRing d8 s.C.ring) x)).then _ s = _
 rw [hr, d8_ring, d8_conf]
 rw [Ex.then_ok (show whenE (!false && decide (d8.dpl < ((0 : Nat) : Int))) (innerE 0 x) s = (.ok (), s) from rfl)]
 rw [Ex.then_ok (show Ex.upd (fun s1 => ⟨s1.C.setSeg 1 { d8 with sel := 8 - 8 % 4 + 0 }, s1.R⟩) s = (.ok (), ⟨s.C.setSeg 1 d8, s.R⟩) from rfl)]
 rw [show ((0 : Nat) != 0) = false from rfl, Ex.then_ok (pushes_same (s := ⟨s.C.setSeg 1 d8, s.R⟩) (h.setCs d8) he ha h4 s.C num)]
 rfl
def pushC (F P : Nat) : CpuS := { startC 0 with flags := F, eip := P }
theorem pushC_cst (F P : Nat) : Cst (pushC F P) := ⟨by kernel_rfl, rfl, rfl, rfl, rfl⟩
theorem pushC_stk (F P : Nat) : Stk (pushC F P) := ⟨by kernel_rfl, rfl, rfl, rfl, rfl, rfl, rfl, rfl⟩
def pushD (F P v k : Nat) (num : Int) : CpuS := (((pushC F P).setSeg 1 d8).setR 4 (E4 36848 num)).placed (24576 + 16 * v) k
theorem push_all {R : RS} {kind v k : Nat} (T : Tabs R kind) (F P : Nat) (hv : v < 64) (num : Int) (hk : kind / 256 % 32 = k) (h14 : k = 14 ∨ k = 15) (hp : kind / 32768 % 2 = 1) (hlt : kind < 65536) :
    triedE (enterE (v : Nat) num false) ⟨pushC F P, R⟩ = (noF, ⟨pushD F P v k num, R4 R 36848 F 8 P num⟩) := by
 unfold triedE
 rw [enter_flat (s := ⟨pushC F P, R⟩) T (pushC_cst F P) hv num false hk h14 hp (fun h => by cases h) hlt, enter3_same (s := ⟨pushC F P, R⟩) (by kernel_rfl) (pushC_stk F P) (a := 36848) rfl (by decide) (by decide)]
 rfl
theorem R4_reads {R : RS} {kind : Nat} (T : Tabs R kind) {F P : Nat} (hF : F < 4294967296) (hP : P < 4294967296) (num : Int) :
    (R4 R 36848 F 8 P num).read 36860 4 = F ∧ (R4 R 36848 F 8 P num).read 36856 4 = 8 ∧ (R4 R 36848 F 8 P num).read 36852 4 = P ∧ (0 ≤ num → (R4 R 36848 F 8 P num).read 36848 4 = (num % 4294967296).toNat) := by
 have T1 := T.write 36860 F (by decide) (by decide) (by decide)
 have T2 := T1.write 36856 8 (by decide) (by decide) (by decide)
 have T3 := T2.write 36852 P (by decide) (by decide) (by decide)
 have a1 := T.same 36860 F (by decide) (by decide) hF
 have a2 := T1.same 36856 8 (by decide) (by decide) (by decide)
 have a3 := T2.same 36852 P (by decide) (by decide) hP
 have b1 := T1.other 36856 36860 8 (by decide) (by decide) (by decide) (by decide) (by decide)
 have b2 := T2.other 36852 36860 P (by decide) (by decide) (by decide) (by decide) (by decide)
 have b3 := T2.other 36852 36856 P (by decide) (by decide) (by decide) (by decide) (by decide)
 unfold R4
 by_cases hn : 0 ≤ num
 ·rw [if_pos hn]
  have c1 := T3.other 36848 36860 (num % 4294967296).toNat (by decide) (by decide) (by decide) (by decide) (by decide)
  have c2 := T3.other 36848 36856 (num % 4294967296).toNat (by decide) (by decide) (by decide) (by decide) (by decide)
  have c3 := T3.other 36848 36852 (num % 4294967296).toNat (by decide) (by decide) (by decide) (by decide) (by decide)
  have c4 := T3.same 36848 (num % 4294967296).toNat (by decide) (by decide) (by omega)
  exact ⟨c1.trans (b2.trans (b1.trans a1)), c2.trans (b3.trans a2), c3.trans a3, fun _ => c4⟩
 ·rw [if_neg hn]
  exact ⟨b2.trans (b1.trans a1), b3.trans a2, a3, fun h => absurd h hn⟩
end Go.Proofs.YtmpcafdgkbpneaaGreat

/- except's law Pushes: the words that are pushed. -/
namespace Go.Proofs.YtmpcafdgkbpneaaGreat
open Go.RowKit Go.MapKept
set_option linter.unusedVariables false
theorem pclr_lt (f m : Nat) (h : f < 4294967296) : clr f m < 4294967296 := Nat.lt_of_le_of_lt Nat.and_le_left h
theorem info_u32 : (Tryz.prog.info? 22).map (fun i => (i.zero, i.size, i.bytes)) = some (some (.int .u32 0), 1, 4) := by kernel_rfl
def WL (code : Int) (F P : Nat) : List Value := if 0 ≤ code then [.int .u32 ((code % 4294967296).toNat : Nat), .int .u32 (P : Nat), .int .u32 8, .int .u32 (F : Nat)] else [.int .u32 (P : Nat), .int .u32 8, .int .u32 (F : Nat)]
theorem word4 {R : RS} {code : Int} {F P : Nat} (h : R.read 36860 4 = F ∧ R.read 36856 4 = 8 ∧ R.read 36852 4 = P ∧ (0 ≤ code → R.read 36848 4 = (code % 4294967296).toNat)) (hc : 0 ≤ code) (q : Nat) (hq : q < 4) : (WL code F P)[q]? = some (.int .u32 (R.read (36848 + 4 * q) 4 : Nat)) := by
 rw [WL, if_pos hc]
 rcases (show q = 0 ∨ q = 1 ∨ q = 2 ∨ q = 3 by omega) with rfl | rfl | rfl | rfl
 ·rw [show 36848 + 4 * 0 = 36848 from rfl, h.2.2.2 hc]; rfl
 ·rw [show 36848 + 4 * 1 = 36852 from rfl, h.2.2.1]; rfl
 ·rw [show 36848 + 4 * 2 = 36856 from rfl, h.2.1]; rfl
 ·rw [show 36848 + 4 * 3 = 36860 from rfl, h.1]; rfl
theorem word3 {R : RS} {code : Int} {F P : Nat} (h : R.read 36860 4 = F ∧ R.read 36856 4 = 8 ∧ R.read 36852 4 = P ∧ (0 ≤ code → R.read 36848 4 = (code % 4294967296).toNat)) (hc : ¬ 0 ≤ code) (q : Nat) (hq : q < 3) : (WL code F P)[q]? = some (.int .u32 (R.read (36852 + 4 * q) 4 : Nat)) := by
 rw [WL, if_neg hc]
 rcases (show q = 0 ∨ q = 1 ∨ q = 2 by omega) with rfl | rfl | rfl
 ·rw [show 36852 + 4 * 0 = 36852 from rfl, h.2.2.1]; rfl
 ·rw [show 36852 + 4 * 1 = 36856 from rfl, h.2.1]; rfl
 ·rw [show 36852 + 4 * 2 = 36860 from rfl, h.1]; rfl
theorem words3_one (P F : Nat) : ∀ u ∈ [Value.int .u32 (P : Nat), .int .u32 8, .int .u32 (F : Nat)], u.oneCell' = true := by
 intro u hu
 simp only [List.mem_cons, List.not_mem_nil, or_false] at hu
 rcases hu with rfl | rfl | rfl <;> rfl
theorem ram_of {w : World} {vb n : Nat} {pl : Pl} {H : Nat → Prop} {R : RS} (h : Vm w vb pl n H R) : ∃ S, Ram w pl.rb S R := by
 obtain ⟨A, S, hA, hS, hd, hH⟩ := vm_split h
 exact ⟨S, hS⟩
theorem row_read {w : World} {base n : Nat} {v : Value} {L : List Value} {E : TypeId} (h : w.ownsRow base E 1 v n L) (hn : 0 < n) : ∃ g c, v = .slice (some ⟨g, 0, none⟩) n c ∧ g < w.heap.size ∧ ∀ j u, L[j]? = some u → w.cell? ⟨g, j, none⟩ = some u := by
 have hl : L.length = n := by have := h.1; omega
 rcases h.2 with ⟨rfl, h0⟩ | ⟨g, cap, cur, rfl, _, hg, h1, _, _, h2⟩
 ·omega
 ·refine ⟨g, cap, rfl, heap_lt hg, fun j u hj => ?_⟩
  have hjl : j < L.length := (List.getElem?_eq_some_iff.1 hj).1
  rw [cell_at hg, ← Array.getElem?_toList]
  rw [← h2, List.getElem?_take_of_lt (by omega)] at hj
  exact hj
def kdP (trap : Bool) : Nat := if trap then 36608 else 36352
def kP (trap : Bool) : Nat := if trap then 15 else 14
def wantP (trap : Bool) (F : Nat) : Nat := if trap then clr F 16640 else clr (clr F 16640) 512
theorem kp_facts (trap : Bool) : kdP trap / 256 % 32 = kP trap ∧ (kP trap = 14 ∨ kP trap = 15) ∧ kdP trap / 32768 % 2 = 1 ∧ kdP trap < 65536 := by cases trap <;> decide
theorem kp_tabs (trap : Bool) : Tabs (startR (kdP trap)) (kdP trap) := by
 cases trap
 ·exact tabs8E
 ·exact tabs8F
end Go.Proofs.YtmpcafdgkbpneaaGreat

/- vmem: a processor's state that came in. -/
namespace Go.Proofs.YtmpcafdgkbpneaaGreat
open Go.WideShapes Go.RowKit
set_option linter.unusedVariables false

theorem cell_n32 {c : Value} (h : ∃ n, c = .int .u32 n ∧ IntKind.u32.min ≤ n ∧ n ≤ IntKind.u32.max) : ∃ n : Nat, c = .int .u32 (n : Nat) ∧ n < 4294967296 := by
 obtain ⟨o, rfl, l, u⟩ := h
 have l2 : 0 ≤ o := l
 have u2 : o < 4294967296 := Int.lt_of_le_of_lt u (by decide)
 exact ⟨o.toNat, by rw [Int.toNat_of_nonneg l2], by omega⟩
end Go.Proofs.YtmpcafdgkbpneaaGreat

