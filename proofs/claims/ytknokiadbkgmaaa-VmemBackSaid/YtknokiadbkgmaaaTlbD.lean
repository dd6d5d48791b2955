/- tlb: Drop. -/
import Derived.Test.YtknokiadbkgmaaaTlbC
import Derived.Maps.Range
namespace Go.Proofs.Ytknokiadbkgmaaa
open Go.RowKit Go.MapKept
open Go.ChangeMaps (setBlock)
set_option linter.unusedVariables false

theorem left_mem {es : Array MapEntry} {seen : Array Nat} {e : MapEntry} (h : e ∈ (leftOf es seen).toList) : e ∈ es.toList ∧ seen.contains e.born = false := by
  unfold leftOf at h
  simp at h
  exact ⟨by simpa using h.1, by simpa using h.2⟩
theorem left_less {es : Array MapEntry} {seen : Array Nat} {e : MapEntry} (he : e ∈ (leftOf es seen).toList) : (leftOf es (seen.push e.born)).size < (leftOf es seen).size := by
  obtain ⟨h1, h2⟩ := left_mem he
  have e1 : leftOf es (seen.push e.born) = (leftOf es seen).filter fun x => !(x.born == e.born) := by
    unfold leftOf
    rw [Array.filter_filter]
    congr 1
    funext x
    by_cases hx : x.born = e.born <;> simp [hx]
  have e2 : ∀ (a : Array MapEntry) (p : MapEntry → Bool), (a.filter p).size = (a.toList.filter p).length := fun a p => by rw [← Array.length_toList, Array.toList_filter]
  rw [e1, e2, ← Array.length_toList]
  exact List.length_filter_lt_length_iff_exists.2 ⟨e, he, by simp⟩
theorem left_sub {es es' : Array MapEntry} {seen : Array Nat} (h : es'.toList.Sublist es.toList) : (leftOf es' seen).size ≤ (leftOf es seen).size := by
  have e2 : ∀ (a : Array MapEntry) (p : MapEntry → Bool), (a.filter p).size = (a.toList.filter p).length := fun a p => by rw [← Array.length_toList, Array.toList_filter]
  unfold leftOf
  rw [e2, e2]
  exact (h.filter _).length_le
/-- A key is taken away; what is left stood there. -/
theorem MapK.delete_es {κ : Type} [DecidableEq κ] {P : Program} {w : World} {r n : Nat} {val : κ → Value} {f : κ → Option Value} {t k e : TypeId} (T : KeyT P k κ val) (h : MapK w r val f n) (ht : P.underlying t = some (.map k e)) {es : Array MapEntry} {clock : Nat} (hb : w.heap[r]? = some (.map es clock)) (K : κ) (t' : TypeId) (ty : TypeId) :
    ∃ w' es', (Builtin.delete_ #[t, t'] ty #[.map (some r), val K]).run P w = .ok (.tuple #[]) w' ∧ MapK w' r val (fun m => if m = K then none else f m) (if (f K).isSome then n - 1 else n) ∧ Keeps (· = r) w w' ∧ w'.heap[r]? = some (.map es' clock) ∧ es'.toList.Sublist es.toList := by
  obtain ⟨w', hr, M, Kp⟩ := h.delete T ht K t' ty
  obtain ⟨l, hl⟩ := T.reads K
  obtain ⟨es2, clock2, hb2, h1, h2, h3, h4, ⟨g, gf, gn⟩ | ⟨j, x, g, gj, gk, gf⟩⟩ := h.find T K
  · rw [hb] at hb2
    simp only [Option.some.injEq, Obj.map.injEq] at hb2
    obtain ⟨rfl, rfl⟩ := hb2
    have e0 : (Builtin.delete_ #[t, t'] ty #[.map (some r), val K]).run P w = .ok (.tuple #[]) { w with heap := w.heap.setIfInBounds r (.map es clock) } := by
      simp [Builtin.delete_, run_underlying ht, MapKept.run_getObj_map hb, T.law.check w _ hl, g, MapKept.run_setObj_map _ hb, Result.andThen]
    rw [e0] at hr
    cases hr
    exact ⟨_, es, e0, M, Kp, (heap_set hb).1, List.Sublist.refl _⟩
  · rw [hb] at hb2
    simp only [Option.some.injEq, Obj.map.injEq] at hb2
    obtain ⟨rfl, rfl⟩ := hb2
    have e0 : (Builtin.delete_ #[t, t'] ty #[.map (some r), val K]).run P w = .ok (.tuple #[]) { w with heap := w.heap.setIfInBounds r (.map (es.eraseIdxIfInBounds j) clock) } := by
      simp [Builtin.delete_, run_underlying ht, MapKept.run_getObj_map hb, T.law.check w _ hl, g, MapKept.run_setObj_map _ hb, Result.andThen]
    have hjl : j < es.size := by
      obtain ⟨hj1, _⟩ := List.getElem?_eq_some_iff.1 gj
      simpa using hj1
    rw [e0] at hr
    cases hr
    refine ⟨_, _, e0, M, Kp, (heap_set hb).1, ?_⟩
    unfold Array.eraseIdxIfInBounds
    rw [dif_pos hjl, Array.toList_eraseIdx]
    exact List.eraseIdx_sublist _ _
section
variable {w : World} {t rb mb places cnt : Nat} {S : Nat → Prop} {ov : Value} {all : PKey → Option Ent} {order : List PKey} {R : RS}
/-- Where the loop stands. -/
structure DropAt (w wr : World) (t rb mb : Nat) (S : Nat → Prop) (ov : Value) (places cnt : Nat) (order : List PKey) (R : RS) (r since : Nat) (cnt' : Nat) (all' : PKey → Option Ent) (es : Array MapEntry) (seen : Array Nat) (c0 : Nat) : Prop where
  T : TlbIn wr t rb mb S ov places cnt' all' order R
  c : cnt' ≤ cnt
  m : wr.heap[mb]? = some (.map es since)
  i : wr.heap[r]? = some (.mapIter (some mb) since seen c0)
  b : ∀ x ∈ es.toList, x.born < since
  s : since ≤ c0
  K : Keeps (fun k => k = mb) w wr
theorem DropAt.key {wr : World} {r since cnt' : Nat} {all' : PKey → Option Ent} {es : Array MapEntry} {seen : Array Nat} {c0 : Nat} (H : DropAt w wr t rb mb S ov places cnt order R r since cnt' all' es seen c0) {e : MapEntry} (he : e ∈ es.toList) : ∃ K : PKey, e.key = K.val := by
  obtain ⟨es2, clock2, hb, _, h2, _⟩ := H.T.map
  rw [H.m] at hb
  simp only [Option.some.injEq, Obj.map.injEq] at hb
  obtain ⟨rfl, rfl⟩ := hb
  exact h2 e he
theorem DropAt.born {wr : World} {r since cnt' : Nat} {all' : PKey → Option Ent} {es : Array MapEntry} {seen : Array Nat} {c0 : Nat} (H : DropAt w wr t rb mb S ov places cnt order R r since cnt' all' es seen c0) : Stamped es since := by
  obtain ⟨es2, clock2, hb, h1, _⟩ := H.T.map
  rw [H.m] at hb
  simp only [Option.some.injEq, Obj.map.injEq] at hb
  obtain ⟨rfl, rfl⟩ := hb
  exact h1
set_option maxRecDepth 20000 in
set_option maxHeartbeats 4000000 in
theorem drop_any (H : TlbIn w t rb mb S ov places cnt all order R) (lin : Nat) (hl : lin < 4294967296) :
    Calls Try.prog 42 #[.pointer (some ⟨t, 0, none⟩), .int .u32 (lin : Nat)] w fun e w' => e = .returned (.tuple #[]) ∧ ∃ cnt' all', TlbIn w' t rb mb S ov places cnt' all' order R ∧ cnt' ≤ cnt ∧ Keeps (fun k => k = mb) w w' := by
  obtain ⟨k0, k1, k2, k3, kf, kl⟩ := H.facts
  obtain ⟨es, since, hm, hst, -⟩ := H.map
  have hbl : ∀ k, THeld t mb S ov k → k < w.heap.size := fun k hk => H.lt hk
  have HBL := Lib.hid hbl
  have HH := Lib.hid H
  have HST := Lib.hid hst
  have hrange := run_range_map (P := Try.prog) w 112 _ _ mb es since Try.underlying112 hm
  clear hbl H hst
  go_enter Try.func42, Try.ntmps42
  go_wp2_with fail
  have hiter := heap_new w (.mapIter (some mb) since #[] since)
  have HAT : Hid (DropAt w (w.alloc (.mapIter (some mb) since #[] since)) t rb mb S ov places cnt order R w.heap.size since cnt all es #[] since) :=
    Lib.hid ⟨HH.out.alloc _, Nat.le_refl _, heap_alloc_lt hm, hiter, HST.out.1, Nat.le_refl _, (Keeps.refl _ w).alloc _⟩
  obtain ⟨r, hr⟩ : ∃ r, r = w.heap.size := ⟨_, rfl⟩
  rw [← hr] at HAT ⊢
  have HR := Lib.hid hr
  clear hrange hiter hr hm k0 k1 k2 k3 kf kl
  generalize w.alloc (.mapIter (some mb) since #[] since) = w1 at *
  go_loopw [4] (fun s wr => ∃ cnt' all' es seen c0, DropAt w wr t rb mb S ov places cnt order R r since cnt' all' es seen c0) (fun _ wr => wr.rangeLeft mb r)
  case atStart => exact ⟨_, _, _, _, _, HAT.out⟩
  case round =>
    clear HAT HST es
    obtain ⟨cnt', all', es, seen, c0, hD⟩ := hrel
    have HD := Lib.hid hD
    clear hD
    rcases run_next_at (P := Try.prog) wr 0 r mb since c0 seen es since HD.out.i HD.out.m HD.out.b HD.out.s with ⟨h0, hrun⟩ | ⟨e, he, w2, hw2, hrun⟩
    · clear h0
      go_wp2_with fail
      go_end0
      exact ⟨rfl, _, _, HD.out.T, HD.out.c, HD.out.K⟩
    · obtain ⟨K, hK⟩ := HD.out.key (left_mem he).1
      have hlt := left_less he
      have hh : ∀ k : Nat, w2.heap[k]? = wr.heap[k]? := fun k => by rcases hw2 with rfl | rfl <;> rfl
      have hk2 : Keeps (fun k => k = mb) w w2 := by rcases hw2 with rfl | rfl; exact HD.out.K; exact HD.out.K.drew
      have hit2 : w2.heap[r]? = some (.mapIter (some mb) since seen c0) := (hh r).trans HD.out.i
      have hs2 := (heap_set (o' := .mapIter (some mb) since (seen.push e.born) since) hit2)
      have hrm : r ≠ mb := fun e => by have := HD.out.i; rw [e, HD.out.m] at this; cases this
      have hhr : ∀ k, THeld t mb S ov k → k ≠ r := fun k hk e => by have := HBL.out k hk; have := HR.out; omega
      have hsz2 : w.heap.size ≤ w2.heap.size := hk2.size
      have hk3 : Keeps (fun k => k = mb) w (setBlock w2 r (.mapIter (some mb) since (seen.push e.born) since)) :=
        ⟨hk2.os, hk2.tape, hk2.output, by simp [setBlock]; exact hsz2, fun k hk hn => (hs2.2 k (by have := HR.out; omega)).trans (hk2.block k hk hn)⟩
      have hD3 : DropAt w (setBlock w2 r (.mapIter (some mb) since (seen.push e.born) since)) t rb mb S ov places cnt order R r since cnt' all' es (seen.push e.born) since :=
        ⟨HD.out.T.of_heap fun k hk => (hs2.2 k (hhr k hk)).trans (hh k), HD.out.c, (hs2.2 mb hrm.symm).trans ((hh mb).trans HD.out.m), hs2.1, HD.out.b, Nat.le_refl _, hk3⟩
      have hold : wr.rangeLeft mb r = (leftOf es seen).size := by unfold World.rangeLeft; simp only [HD.out.m, HD.out.i]
      have HD3 := Lib.hid hD3
      rw [hK] at hrun
      unfold PKey.val at hrun
      clear hk3 hs2 hit2 hk2 hh hw2
      generalize setBlock w2 r (.mapIter (some mb) since (seen.push e.born) since) = w3 at *
      have hent := run_entry_at (P := Try.prog) w3 r mb since seen es since e HD3.out.i HD3.out.m (left_mem he).1 HD3.out.born.2.1
      rw [hK] at hent
      unfold PKey.val at hent
      have HOLD := Lib.hid hold
      have HLT := Lib.hid hlt
      have HRM := Lib.hid hrm
      have HHR := Lib.hid hhr
      clear hD3 hold hlt hrm hhr he hK HD hsz2
      have hbx := heap_new w3 (.cells #[.int .u32 (K.c : Nat), .int .u32 (K.p : Nat), .bool K.wr, .bool K.us, .bool K.wp] 127)
      have HD5 : Hid (DropAt w (w3.alloc (.cells #[.int .u32 (K.c : Nat), .int .u32 (K.p : Nat), .bool K.wr, .bool K.us, .bool K.wp] 127)) t rb mb S ov places cnt order R r since cnt' all' es (seen.push e.born) since) :=
        Lib.hid ⟨HD3.out.T.alloc _, HD3.out.c, heap_alloc_lt HD3.out.m, heap_alloc_lt HD3.out.i, HD3.out.b, Nat.le_refl _, HD3.out.K.alloc _⟩
      have hdiv : (lin : Int) / 4096 = ((lin / 4096 : Nat) : Int) := by omega
      have HDV := Lib.hid hdiv
      clear hdiv
      have hgs : w3.heap.size ≠ mb := fun e => by have := HD3.out.T.map.lt; omega
      have hgr : w3.heap.size ≠ r := fun e => by have := heap_lt HD3.out.i; omega
      have HGS := Lib.hid hgs
      have HGR := Lib.hid hgr
      clear hgs hgr
      by_cases hp : K.p = lin / 4096
      · have hp' : (K.p : Int) = (lin : Int) / 4096 := by omega
        have hpb : ((K.p : Int) == (lin : Int) / 4096) = true := by simp; omega
        have HP := Lib.hid hp'
        clear hp hp'
        go_upto_region 5 with (fail)
        clear hrun hent hpb
        generalize hW : w3.alloc (.cells #[.int .u32 (K.c : Nat), .int .u32 (K.p : Nat), .bool K.wr, .bool K.us, .bool K.wp] 127) = w5 at *
        generalize hG : w3.heap.size = g at *
        clear hW hG HD3
        obtain ⟨k0, k1, k2, k3, kf, kl⟩ := HD5.out.T.facts
        have z0 := cell_at (k := 0) hbx
        have z1 := cell_at (k := 1) hbx
        have z2 := cell_at (k := 2) hbx
        have z3 := cell_at (k := 3) hbx
        have z4 := cell_at (k := 4) hbx
        have zl := heap_lt hbx
        simp at z0 z1 z2 z3 z4
        obtain ⟨w6, es6, hdel, M6, K6, hm6, hsub6⟩ := (HD5.out.T.map.drewN 1).delete_es (P := Try.prog) PK Try.underlying112 HD5.out.m K 127 0
        have hdel : (Builtin.delete_ #[112, 127] 0 #[.map (some mb), .agg #[.int .u32 (K.c : Nat), .int .u32 (K.p : Nat), .bool K.wr, .bool K.us, .bool K.wp]]).run Try.prog w5.drew = .ok (.tuple #[]) w6 := hdel
        have HD6 : Hid (DropAt w w6 t rb mb S ov places cnt order R r since _ _ es6 (seen.push e.born) since) :=
          Lib.hid ⟨(HD5.out.T.drewN 1).less M6 (by have := HD5.out.T.c1; split <;> omega) K6, by have := HD5.out.c; split <;> omega, hm6, (K6.block r (heap_lt HD5.out.i) HRM.out).trans HD5.out.i, fun x hx => HD5.out.b x (hsub6.subset hx), Nat.le_refl _, (HD5.out.K.drewN 1).trans K6⟩
        have hlt6 : w6.rangeLeft mb r < wr.rangeLeft mb r := by
          rw [HOLD.out]
          unfold World.rangeLeft
          simp only [HD6.out.m, HD6.out.i]
          exact Nat.lt_of_le_of_lt (left_sub hsub6) HLT.out
        have HL6 := Lib.hid hlt6
        clear M6 K6 hm6 hsub6 hlt6 hbx
        go_still_tail 5, (by kernel_rfl)
        change wpList _ _ _ _ _ w5.drew
        go_wp2_with fail
        go_roundw
        case rel => exact ⟨_, _, _, _, _, HD6.out⟩
        case measure => exact HL6.out
      · have hp' : ¬ (K.p : Int) = (lin : Int) / 4096 := by omega
        have hpb : ((K.p : Int) == (lin : Int) / 4096) = false := by simp; omega
        clear hp
        have hlt5 : (w3.alloc (.cells #[.int .u32 (K.c : Nat), .int .u32 (K.p : Nat), .bool K.wr, .bool K.us, .bool K.wp] 127)).rangeLeft mb r < wr.rangeLeft mb r := by
          rw [HOLD.out]
          unfold World.rangeLeft
          simp only [HD5.out.m, HD5.out.i]
          exact HLT.out
        have HL5 := Lib.hid hlt5
        clear hlt5
        go_wp2_with fail
        go_roundw
        case rel => exact ⟨_, _, _, _, _, HD5.out⟩
        case measure => exact HL5.out
end
end Go.Proofs.Ytknokiadbkgmaaa
