/- 'drawloom/drawloomlaw16.VmemBack' answers true for every input. Conditions: none. -/
import Derived.Test.YtknokiadbkgmaaaFrame
import Derived.Test.YtknokiadbkgmaaaVmTop
import Derived.Test.YtknokiadbkgmaaaVmY
import Derived.Test.YtknokiadbkgmaaaPArgs
import Derived.Test.YtknokiadbkgmaaaVmIn
import Derived.Test.YtknokiadbkgmaaaAlike0
namespace Go.Proofs.Ytknokiadbkgmaaa.vmemBack
open Go.ChangeShapes Go.WideShapes Go.ChangeAt Go.RowKit
set_option linter.unusedVariables false

open Go.MapKept
theorem words_low {w w1 : World} {a : Option Addr} {len : Nat} {at_ v : Nat → Nat} (h : WordsIn w a len at_ v) (hb : Below w.heap.size w w1) : WordsIn w1 a len at_ v := by
  rcases h with h | ⟨b, o, e, h⟩
  · exact .inl h
  · exact .inr ⟨b, o, e, h.below hb⟩
theorem TB.grow {w0 w w' : World} {PA PB PC : World → (Nat → Prop) → Prop} {L : List (Nat × Obj)} (T : TB w0 w PA PB PC L) (LA : Local PA) (LB : Local PB) (LC : Local PC) {g : Nat} {o : Obj} (hb : Below w.heap.size w w') (hg : w.heap.size ≤ g) (ho : w'.heap[g]? = some o) : TB w0 w' PA PB PC ((g, o) :: L) := by
  refine ⟨T.1.boxes LA LB LC hb (fun k h => ?_), fun p hp => ?_⟩
  · obtain ⟨x, hx⟩ := h
    rcases List.mem_cons.1 hx with e | hx
    · have : k = g := (Prod.mk.inj e).1
      have := heap_lt ho
      exact .inr ⟨by omega, by omega⟩
    · exact .inl ⟨x, hx⟩
  · rcases List.mem_cons.1 hp with rfl | hp
    · exact ho
    · exact heap_below hb (T.2 p hp)
theorem TB.sub {w0 w : World} {PA PB PC : World → (Nat → Prop) → Prop} {L L' : List (Nat × Obj)} (T : TB w0 w PA PB PC L) (h : ∀ p ∈ L', p ∈ L) : TB w0 w PA PB PC L' := by
  refine ⟨?_, fun p hp => T.2 p (h p hp)⟩
  obtain ⟨A, B, D, s, a, b, c, g⟩ := T.1
  exact ⟨A, B, D, s, a, b, c, fun k ⟨o, ho⟩ => g k ⟨o, h _ ho⟩⟩
theorem vm_ram {w : World} {vb : Nat} {places : Pl} {n : Nat} {H : Nat → Prop} {R : RS} (h : Vm w vb places n H R) : ∃ S, Ram w places.rb S R := by
  obtain ⟨t, rb, G, ho, hK, _, _⟩ := h
  obtain ⟨S, hR, _⟩ := hK.ram
  obtain ⟨_, _, _, _, _, _, _, hl, _⟩ := hK
  rw [← hl.2]
  exact ⟨S, hR⟩
theorem dump_str {w : World} {b : Nat} {S : Nat → Prop} {R : RS} (H : Ram w b S R) (x : Int) (hx : x = (R.size : Nat)) : Calls Try.prog 19 #[.pointer (some ⟨b, 0, .none⟩), .int .u32 0, .int .i64 x] w fun e w' =>
    ∃ g o, e = .returned (.slice (some ⟨g, 0, .none⟩) R.size R.size) ∧ w'.heap[g]? = some o ∧ w.heap.size ≤ g ∧ (∀ w2 : World, w2.heap[g]? = some o → (convert 62 9 (.slice (some ⟨g, 0, .none⟩) R.size R.size)).run Try.prog w2 = .ok (.string (strOf R.size R.byte)) w2) ∧ Below w.heap.size w w' := by
  have hs := RS.size_pos H.isok
  have hs2 := RS.size_le H.isok
  rw [hx]
  refine (dump_any H 0 R.size (by decide) (by omega) (by omega)).mono ?_
  rintro e w' ⟨g, rfl, hg, hcl, hb⟩
  refine ⟨g, _, rfl, hcl, hg, fun w2 h2 => ?_, hb⟩
  have h3 := conv_bytes (w := w2) (g := g) (n := R.size) (cap := R.size) (f := fun i => R.get (at32 0 i)) h2
  rw [h3, strOf_congr (fun i hi => get_byte H.isok i hi)]
def opB (k seg : Int) (off : Nat) (size : Int) (v : Nat) : Obj := .cells #[.int .i64 k, .int .i64 seg, .int .u32 (off : Nat), .int .i64 size, .int .u32 (v : Nat)] 60
theorem op_cells {W : World} {go : Nat} {k seg : Int} {off : Nat} {size : Int} {v : Nat} (h : W.heap[go]? = some (opB k seg off size v)) : W.cell? ⟨go, 1, none⟩ = some (.int .i64 seg) ∧ W.cell? ⟨go, 2, none⟩ = some (.int .u32 (off : Nat)) ∧ W.cell? ⟨go, 3, none⟩ = some (.int .i64 size) ∧ W.cell? ⟨go, 4, none⟩ = some (.int .u32 (v : Nat)) ∧ go < W.heap.size :=
  ⟨by rw [cell_at h]; rfl, by rw [cell_at h]; rfl, by rw [cell_at h]; rfl, by rw [cell_at h]; rfl, heap_lt h⟩
theorem fault_cells {W : World} {g : Nat} {a b : Int} {c : Nat} (h : W.heap[g]? = some (faultO a b c)) : W.cell? ⟨g, 0, none⟩ = some (.int .i64 a) ∧ W.cell? ⟨g, 1, none⟩ = some (.int .i64 b) ∧ W.cell? ⟨g, 2, none⟩ = some (.int .u32 (c : Nat)) ∧ g < W.heap.size :=
  ⟨by rw [cell_at h]; rfl, by rw [cell_at h]; rfl, by rw [cell_at h]; rfl, heap_lt h⟩
set_option maxRecDepth 100000 in
theorem open_op {w : World} {r0 : Reach} {base : Nat} {v : Value} (h : Value.okWide Try.prog w r0 base 60 v) :
    ∃ (k s : Int) (o : Nat) (z : Int) (x : Nat), v = .agg #[.int .i64 k, .int .i64 s, .int .u32 (o : Nat), .int .i64 z, .int .u32 (x : Nat)] ∧ o < 4294967296 ∧ x < 4294967296 := by
  obtain ⟨cs, rfl, hlen, hc⟩ := arg_agg (ts := [3, 3, 23, 3, 23]) Try.underlying60 (by kernel_rfl) (by kernel_rfl) h
  match cs, hlen, hc with
  | [c0, c1, c2, c3, c4], _, hc =>
    obtain ⟨k, rfl, _, _⟩ := cell_int Try.underlying3 (hc 0 c0 3 rfl rfl)
    obtain ⟨s, rfl, _, _⟩ := cell_int Try.underlying3 (hc 1 c1 3 rfl rfl)
    obtain ⟨o, rfl, ho⟩ := cell_n32 (cell_int Try.underlying23 (hc 2 c2 23 rfl rfl))
    obtain ⟨z, rfl, _, _⟩ := cell_int Try.underlying3 (hc 3 c3 3 rfl rfl)
    obtain ⟨x, rfl, hx⟩ := cell_n32 (cell_int Try.underlying23 (hc 4 c4 23 rfl rfl))
    exact ⟨k, s, o, z, x, rfl, ho, hx⟩
theorem st_seg {R R' : RS} {C : CpuS} {seg : Int} {off : Nat} {size : Int} {v : Nat} (h : st R C seg off size v = (noF, R')) : 0 ≤ seg ∧ seg ≤ 5 := by
  unfold st at h
  obtain ⟨⟨g, R1⟩, hg⟩ : ∃ r, sg R C seg off size true = r := ⟨_, rfl⟩
  rw [hg] at h
  cases g with
  | no a b c =>
    obtain ⟨h1, _⟩ := Prod.mk.inj h
    injection h1 with h1
    rcases sg_vec hg with e | e | e <;> omega
  | ok s =>
    unfold sg at hg
    split at hg
    · rename_i hh; exact hh.2
    · cases hg
theorem back_mod (x kz : Nat) (hk : kz = 1 ∨ kz = 2 ∨ kz = 4) : ¬ IntKind.u64.wrap ((2 : Int) ^ (8 * kz)) = 0 ∧ (IntKind.u64.wrap ((x : Int) % 256 ^ kz) != (x : Int) % IntKind.u64.wrap (2 ^ (8 * kz))) = false := by
  rw [IntKind.wrap_u64, IntKind.wrap_u64]
  rcases hk with rfl | rfl | rfl
  · exact ⟨by decide, by simp; omega⟩
  · exact ⟨by decide, by simp; omega⟩
  · exact ⟨by decide, by simp; omega⟩
theorem back_byte (x j : Nat) : (((x / 256 ^ j % 256 : Nat) : Int) != ((x : Int) / 2 ^ (8 * j)).tmod 256) = false := by
  have e : ((x : Int) / 2 ^ (8 * j)) = ((x / 256 ^ j : Nat) : Int) := by
    rw [Int.natCast_ediv, Int.natCast_pow, show (2 : Int) ^ (8 * j) = (2 ^ 8) ^ j from Int.pow_mul]
    rfl
  rw [e, Int.tmod_eq_emod_of_nonneg (Int.natCast_nonneg _)]
  simp
theorem wr_size (R : RS) (a v : Nat) : (R.wr a v).size = R.size := by
  unfold RS.wr
  split
  · rfl
  · rfl
theorem write_size (R : RS) (a v : Nat) : ∀ k, (R.write a v k).size = R.size
  | 0 => rfl
  | k + 1 => (wr_size _ _ _).trans (write_size R a v k)
theorem writes_size (R : RS) (at_ v : Nat → Nat) : ∀ k, (R.writes at_ v k).size = R.size
  | 0 => rfl
  | k + 1 => (write_size _ _ _ 4).trans (writes_size R at_ v k)
theorem both_size (at_ v : Nat → Nat) (n : Nat) : (bothR 16 at_ v n (fun _ => 0) 0).size = 65536 := (writes_size _ _ _ n).trans rfl
set_option maxRecDepth 100000 in
set_option maxHeartbeats 8000000 in
theorem walk (w : World) (a0 : Option Addr) (n0 cc : Nat) (at0 v0 : Nat → Nat) (hm : n0 ≤ 9223372036854775807) (hW : WordsIn w a0 n0 at0 v0) (C : CpuS) (hC : C.ok) (k seg : Int) (off : Nat) (size : Int) (x : Nat) (ho : off < 4294967296) (hx : x < 4294967296) :
    Calls Try.prog 6 #[.slice a0 n0 cc, .agg C.cells.toArray, .agg #[.int .i64 k, .int .i64 seg, .int .u32 (off : Nat), .int .i64 size, .int .u32 (x : Nat)]] w fun e w' => e = .returned (.bool true) ∧ Below w.heap.size w w' := by
  have HW := Lib.hid hW
  have HMX := Lib.hid hm
  have HO := Lib.hid ho
  have HXX := Lib.hid hx
  have HOK := Lib.hid hC
  clear hW hm ho hx hC
  have HE : Hid (cpuO C = .cells C.cells.toArray 38) := Lib.hid rfl
  obtain ⟨cs, hcs⟩ : ∃ cs, cs = C.cells.toArray := ⟨_, rfl⟩
  rw [← hcs] at HE ⊢
  clear hcs
  go_enter Try.func6, Try.ntmps6
  go_upto_region 1 with (fail)
  have hn : NB w ((w.alloc (.cells cs 38)).alloc (opB k seg off size x)) [(w.heap.size + 1, opB k seg off size x), (w.heap.size, cpuO C)] := by
    have h := ((NB.start w).alloc (.cells cs 38)).alloc (opB k seg off size x)
    rw [World.size_alloc] at h
    rw [HE.out]
    exact h
  have HN := Lib.hid hn
  clear hn
  change Code.wp _ _ _ _ ((w.alloc (.cells cs 38)).alloc (opB k seg off size x))
  generalize (w.alloc (.cells cs 38)).alloc (opB k seg off size x) = w0 at *
  clear HE
  go_wp2_with fail
  refine (awake16 _).mono ?_
  rintro e w1 ⟨rfl, hb⟩
  have T0 := Lib.hid (TB.ofNB (HN.out.below hb))
  clear hb HN
  go_wp2_with fail
  refine (both_any w1 16 a0 n0 cc at0 v0 (words_low HW.out T0.out.1.B) none 0 0 (fun _ => 0) (.inl rfl) HMX.out (by decide)).mono ?_
  rintro e w2 ⟨b1, S1, b1', S1', rfl, Tw⟩
  have T1 := Lib.hid ((T0.out.both Nothing.local Nothing.local Tw).rot)
  clear Tw T0
  go_wp2_with fail
  refine (both_any w2 16 a0 n0 cc at0 v0 (words_low HW.out T1.out.1.B) none 0 0 (fun _ => 0) (.inl rfl) HMX.out (by decide)).mono ?_
  rintro e w3 ⟨b2, S2, b2', S2', rfl, Tw⟩
  have T2 := Lib.hid ((T1.out.both Nothing.local (RamP_local _ _) Tw).rot.rot)
  clear Tw T1
  go_wp2_with fail
  refine (TB.vnew T2.out (RamP_local _ _) Nothing.local (Wide.both _ _ _ _ _ _) 8 (by decide) 8 rfl).mono ?_
  rintro e w4 ⟨v1, rfl, Tv⟩
  have T3 := Lib.hid Tv.rot
  clear Tv T2
  go_wp2_with fail
  refine (TB.vnew T3.out Nothing.local (VmO.local _ _ _ _) (Wide.both _ _ _ _ _ _) 0 (by decide) 0 rfl).mono ?_
  rintro e w5 ⟨v2, rfl, Tv⟩
  have T4 := Lib.hid Tv
  clear Tv T3
  have HP : Hid (Plain (bothR 16 at0 v0 n0 (fun _ => 0) 0)) := Lib.hid (Plain.both _ _ _ _ _)
  have HSZ := Lib.hid (both_size at0 v0 n0)
  generalize bothR 16 at0 v0 n0 (fun _ => 0) 0 = R at *
  obtain ⟨⟨⟨fv, fc, fa⟩, R1⟩, hs⟩ : ∃ r, st R C seg off size x = r := ⟨_, rfl⟩
  obtain ⟨hk1, hk2, hk3⟩ := st_ck (R := R) (C := C) (seg := seg) (off := off) (size := size) (v := x)
  obtain ⟨⟨f2, R2⟩, hc2⟩ : ∃ r, ck R C seg off size = r := ⟨_, rfl⟩
  rw [hs, hc2] at hk1 hk2
  rw [hs] at hk3
  have hk1 : (⟨fv, fc, fa⟩ : FaultS) = f2 := hk1
  subst hk1
  have HST := Lib.hid hs
  have HCK := Lib.hid hc2
  have HK2 := Lib.hid hk2
  have HK3 := Lib.hid hk3
  clear hs hc2 hk2 hk3
  obtain ⟨o1, o2, o3, o4, ol⟩ := op_cells (T4.out.get (g := w.heap.size + 1) (o := opB k seg off size x) (by simp))
  go_wp2_with fail
  refine (TB.check (cb := w.heap.size) (C := C) T4.out Nothing.local (VmO.local _ _ _ _) (by simp) HOK.out seg off size HO.out (by decide) HCK.out).mono ?_
  rintro e w6 ⟨rfl, Tc⟩
  have T5 := Lib.hid (Tc.alloc (VmO.local _ _ _ _) Nothing.local (VmO.local _ _ _ _) (faultO fv fc fa))
  clear Tc T4 o1 o2 o3 o4 ol
  go_upto_region 9 with (fail)
  change Code.wp _ _ _ _ (w6.alloc (faultO fv fc fa))
  generalize w6.alloc (faultO fv fc fa) = w6x at *
  generalize w6.heap.size = g16 at *
  go_wp2_with fail
  refine (T5.out.1.ask (fun A hA => by obtain ⟨S, hS⟩ := vm_ram hA; exact len_any hS)).mono ?_
  rintro e w7 ⟨rfl, rfl⟩
  go_wp2_with fail
  refine (T5.out.1.ask (fun A hA => by obtain ⟨S, hS⟩ := vm_ram hA; exact dump_str hS _ rfl)).mono ?_
  rintro e w7 ⟨g17, o17, rfl, hg, hgn, hcv, hb⟩
  have T6 := Lib.hid ((TB.grow T5.out (VmO.local _ _ _ _) Nothing.local (VmO.local _ _ _ _) hb hgn hg).rot.rot)
  have HCV := Lib.hid hcv
  clear hg hgn hcv hb T5
  obtain ⟨o1, o2, o3, o4, ol⟩ := op_cells (T6.out.get (g := w.heap.size + 1) (o := opB k seg off size x) (by simp))
  go_wp2_with fail
  refine (TB.store (cb := w.heap.size) (C := C) T6.out (VmO.local _ _ _ _) Nothing.local (by simp) HOK.out seg off size HO.out x HXX.out (by decide) HST.out).mono ?_
  rintro e w8 ⟨rfl, Tc⟩
  have T7 := Lib.hid (Tc.alloc (VmO.local _ _ _ _) (VmO.local _ _ _ _) Nothing.local (faultO fv fc fa))
  clear Tc T6 o1 o2 o3 o4 ol
  go_upto_region 11 with (fail)
  change Code.wp _ _ _ _ (w8.alloc (faultO fv fc fa))
  generalize w8.alloc (faultO fv fc fa) = w8x at *
  generalize w8.heap.size = g18 at *
  obtain ⟨x0, x1, x2, xl⟩ := fault_cells (T7.out.get (g := g16) (o := faultO fv fc fa) (by simp))
  obtain ⟨y0, y1, y2, yl⟩ := fault_cells (T7.out.get (g := g18) (o := faultO fv fc fa) (by simp))
  by_cases hf : 0 ≤ fv
  · have hR : R1 = R2 := HK2.out hf
    subst hR
    have hcA : (convert 62 9 (.slice (some ⟨g17, 0, .none⟩) R1.size R1.size)).run Try.prog w8x.drew = .ok (.string (strOf R1.size R1.byte)) w8x.drew := HCV.out _ (T7.out.get (g := g17) (o := o17) (by simp))
    have HL := Lib.hid (show Calls Try.prog 20 #[.pointer (some ⟨b1, 0, .none⟩)] w8x.drew fun e w' => e = .returned (.int .i64 (R1.size : Nat)) ∧ w8x.drew = w' from (T7.out.1.below (VmO.local _ _ _ _) (VmO.local _ _ _ _) Nothing.local (Below.refl _ _).drew).ask (fun A hA => by obtain ⟨S, hS⟩ := vm_ram hA; exact len_any hS))
    have HD := Lib.hid ((T7.out.1.below (VmO.local _ _ _ _) (VmO.local _ _ _ _) Nothing.local (Below.refl _ _).drew).ask (fun A hA => by obtain ⟨S, hS⟩ := vm_ram hA; exact dump_str hS _ rfl))
    have hee : ((strOf R1.size R1.byte).toList == (strOf R1.size R1.byte).toList) = true := by simp
    have HX17 := Lib.hid (T7.out.get (g := g17) (o := o17) (by simp))
    have HBL := Lib.hid T7.out.1.B
    go_upto_region 14 with (fail)
    clear x0 x1 x2 xl y0 y1 y2 yl T7
    go_region_with (first
      | ((with_reducible refine (HL.out).mono ?_); rintro e W ⟨rfl, rfl⟩)
      | ((with_reducible refine (HD.out).mono ?_); rintro e W ⟨gd, od, rfl, hgd, hgn, hcv, hb⟩; have hB1 := hcv W hgd; have hB2 := HCV.out W (heap_below hb HX17.out); have HBB := Lib.hid (step_below HBL.out.drew hb (Nat.le_refl _)); clear hgd hgn hcv hb))
    all_goals
      go_wp2_with fail
      go_ret
      exact ⟨rfl, HBB.out⟩
  · have hnf : (⟨fv, fc, fa⟩ : FaultS) = noF := by rcases HK3.out with h | h; exact h; exact absurd h hf
    obtain ⟨rfl, rfl, rfl⟩ : fv = -1 ∧ fc = -1 ∧ fa = 0 := by
      injection hnf with a b c
      exact ⟨a, b, c⟩
    clear hnf hf
    obtain ⟨hs0, hs5⟩ := st_seg HST.out
    obtain ⟨i, rfl⟩ : ∃ i : Nat, seg = i := ⟨seg.toNat, by omega⟩
    have hcpu := T7.out.cpu (cb := w.heap.size) (C := C) (by simp) HOK.out
    have hi : i < 6 := by omega
    obtain ⟨kk0, -, -, kl⟩ := hcpu.cr
    obtain ⟨-, kb, -, -, -, -, -, -, -⟩ := hcpu.seg7 i hi
    obtain ⟨o1, o2, o3, o4, ol⟩ := op_cells (T7.out.get (g := w.heap.size + 1) (o := opB k i off size x) (by simp))
    have hcr := HOK.out.cr0
    clear hcpu
    simp at x2 y2
    by_cases hpg : C.paged = true
    · have e1 : (((C.cr0 : Int) / 2147483648) == 1) = true := by unfold CpuS.paged at hpg; simp at hpg ⊢; omega
      clear hpg
      go_wp2_with fail
      go_ret
      exact ⟨rfl, T7.out.1.B⟩
    · have hp : C.paged = false := by simpa using hpg
      have e1 : (((C.cr0 : Int) / 2147483648) == 1) = false := by unfold CpuS.paged at hp; simp at hp ⊢; omega
      have HPG := Lib.hid hp
      clear hpg hp
      by_cases hb0 : (C.seg i).base = 0
      · by_cases hoff : off ≤ 65280
        · have HBK := Lib.hid (back_plain HP.out HSZ.out HPG.out hoff HST.out hb0)
          rw [hb0] at kb
          have hoff2 : ¬ 65280 < (off : Int) := by omega
          obtain ⟨_, _, kz, hkz, hkk, hld, hbytes⟩ := HBK.out
          have HLD := Lib.hid hld
          have HBY := Lib.hid hbytes
          have HKK := Lib.hid hkk
          have HB0 := Lib.hid hb0
          subst hkz
          clear hld hbytes hb0 HBK hkk
          go_wp2_with fail
          refine (TB.load (cb := w.heap.size) (C := C) T7.out (VmO.local _ _ _ _) Nothing.local (by simp) HOK.out i off kz HO.out (by decide) HLD.out).mono ?_
          rintro e w9 ⟨rfl, Tc⟩
          have T8 := Lib.hid (Tc.alloc (VmO.local _ _ _ _) (VmO.local _ _ _ _) Nothing.local (faultO (-1) (-1) 0))
          clear Tc T7 o1 o2 o3 o4 ol x0 x1 x2 xl y0 y1 y2 yl kb kk0 kl
          go_upto_region 18 with (fail)
          change Code.wp _ _ _ _ (w9.alloc (faultO (-1) (-1) 0))
          generalize w9.alloc (faultO (-1) (-1) 0) = w9x at *
          generalize w9.heap.size = g20 at *
          obtain ⟨o1, o2, o3, o4, ol⟩ := op_cells (T8.out.get (g := w.heap.size + 1) (o := opB k i off kz x) (by simp))
          obtain ⟨x0, x1, x2, xl⟩ := fault_cells (T8.out.get (g := g20) (o := faultO (-1) (-1) 0) (by simp))
          have hk4 : kz ≤ 4 := by rcases HKK.out with h | h | h <;> omega
          have hxl := HXX.out
          obtain ⟨hz1, hz2⟩ := back_mod x kz HKK.out
          simp at x2
          go_wp2_with fail
          clear hz1 hz2 x0 x1 x2 xl o1 o2 o3 o4 ol e1
          have T9 := Lib.hid (TB.sub T8.out (L' := [(w.heap.size + 1, opB k i off kz x), (w.heap.size, cpuO C)]) (fun p hp => by simp at hp ⊢; rcases hp with h | h <;> simp [h]))
          clear T8
          go_loopw [21] (fun q wr => ∃ j : Nat, j ≤ kz ∧ q = .int .i64 j ∧ TB w wr (VmO v1 { n := 8, rb := b1 } (4 + 2 * j) R1) (VmO v2 { n := 0, rb := b2 } (0 + 2) R2) Nothing [(w.heap.size + 1, opB k i off kz x), (w.heap.size, cpuO C)]) (fun q _ => kz - (intOf q).toNat)
          case atStart => exact ⟨0, Nat.zero_le _, rfl, T9.out⟩
          case round =>
            clear T9
            obtain ⟨j, hj, rfl, hTj⟩ := hrel
            have HTJ := Lib.hid hTj
            clear hTj
            obtain ⟨o1, o2, o3, o4, ol⟩ := op_cells (HTJ.out.get (g := w.heap.size + 1) (o := opB k i off kz x) (by simp))
            by_cases hlt : j < kz
            · have hby := HBY.out j hlt
              have hne := back_byte x j
              generalize x / 256 ^ j % 256 = vj at *
              have HBJ := Lib.hid hby
              clear hby
              go_wp2_with fail
              refine (TB.load (cb := w.heap.size) (C := C) HTJ.out (VmO.local _ _ _ _) Nothing.local (by simp) HOK.out i (off + j) 1 (by omega) (by omega) HBJ.out).mono ?_
              rintro e w10 ⟨rfl, Tc⟩
              have T10 := Lib.hid (Tc.alloc (VmO.local _ _ _ _) (VmO.local _ _ _ _) Nothing.local (faultO (-1) (-1) 0))
              clear Tc HTJ o1 o2 o3 o4 ol
              go_upto_region 24 with (fail)
              change Code.wp _ _ _ _ (w10.alloc (faultO (-1) (-1) 0))
              generalize w10.alloc (faultO (-1) (-1) 0) = w10x at *
              generalize w10.heap.size = g23 at *
              obtain ⟨o1, o2, o3, o4, ol⟩ := op_cells (T10.out.get (g := w.heap.size + 1) (o := opB k i off kz x) (by simp))
              have T11 := Lib.hid (TB.sub T10.out (L' := [(w.heap.size + 1, opB k i off kz x), (w.heap.size, cpuO C)]) (fun p hp => by simp at hp ⊢; rcases hp with h | h <;> simp [h]))
              clear T10
              go_wp2_with fail
              refine ⟨⟨j + 1, by omega, by go_num, ?_⟩, by simp [intOf]; omega⟩
              rw [show 4 + 2 * (j + 1) = 4 + 2 * j + 2 by omega]
              exact T11.out
            · obtain rfl : j = kz := by omega
              clear hlt hj
              go_wp2_with fail
              go_ret
              exact ⟨rfl, HTJ.out.1.B⟩
        · have hoff2 : 65280 < (off : Int) := by omega
          rw [hb0] at kb
          clear hb0
          go_wp2_with fail
          go_ret
          exact ⟨rfl, T7.out.1.B⟩
      · have e2 : (((C.seg i).base : Int) != 0) = true := by simp; omega
        clear hb0
        go_wp2_with fail
        go_ret
        exact ⟨rfl, T7.out.1.B⟩

set_option maxRecDepth 100000 in
theorem lifted (os : Os) (started : os.Started) (H : Type) (enc : TypeId × Value → H) :
    ReturnsInHanded {} Try.checked os 6 .any (Rows.vmemBackSpec.pre6 enc Try.prog Try.f6 Rows.vmemBackRow.domain false) (Rows.vmemBackSpec.post enc Try.prog Try.f6 false true false false) := by
  refine returnsInHanded_of_change (C := Try.checked) own started (by kernel_rfl) Try.func6
    (ChangeSpec.witness6 (enc := enc) (C := Try.checked) false ⟨#[], #[.slice none 0 0, .agg #[.int .u32 0, .int .u32 0, .int .u32 0, .int .u32 0, .int .u32 0, .int .u32 0, .int .u32 0, .int .u32 0, .int .u32 0, .int .u32 0, .int .u16 0, .bool false, .int .u32 0, .int .u32 0, .int .i64 0, .bool false, .int .i64 0, .bool false, .bool false, .int .u16 0, .bool false, .int .u32 0, .int .u32 0, .int .i64 0, .bool false, .int .i64 0, .bool false, .bool false, .int .u16 0, .bool false, .int .u32 0, .int .u32 0, .int .i64 0, .bool false, .int .i64 0, .bool false, .bool false, .int .u16 0, .bool false, .int .u32 0, .int .u32 0, .int .i64 0, .bool false, .int .i64 0, .bool false, .bool false, .int .u16 0, .bool false, .int .u32 0, .int .u32 0, .int .i64 0, .bool false, .int .i64 0, .bool false, .bool false, .int .u16 0, .bool false, .int .u32 0, .int .u32 0, .int .i64 0, .bool false, .int .i64 0, .bool false, .bool false, .int .u32 0, .int .u32 0, .int .u32 0, .int .u32 0, .int .u16 0, .int .u32 0, .int .u16 0, .int .u16 0, .bool false, .int .u32 0, .int .u32 0, .int .i64 0, .bool false, .int .i64 0, .bool false, .bool false, .bool false, .bool false, .bool false], .agg #[.int .i64 0, .int .i64 0, .int .u32 0, .int .i64 0, .int .u32 0]], []⟩ 8 (by kernel_rfl) (by kernel_rfl) (by kernel_rfl) (by kernel_rfl)) ?_
  intro W base args ds gs before hval0 hW hcnd _
  have hval : ∀ (j : Nat) t v, Try.f6.params[j]? = some t → args[j]? = some v → Value.okWide Try.prog W .any base t v := hval0
  have hW' := hW
  obtain ⟨p, q, hA0, hV, rfl, hfz, hnd⟩ := hW
  have hA : DataW.TrodAll enc Try.prog W 0 (fun _ => true) true Try.f6.params.toList args.toList ds p := hA0
  rw [Try.params6] at hA hval
  obtain ⟨v0, vs0, d0, ds0, p0, q0, hargs, rfl, rfl, h0, r0⟩ := trodAll_cons hA
  obtain ⟨v1, vs1, d1, ds1, p1, q1, rfl, rfl, rfl, h1, r1⟩ := trodAll_cons r0
  obtain ⟨v2, vs2, d2, ds2, p2, q2, rfl, rfl, rfl, h2, r2⟩ := trodAll_cons r1
  obtain ⟨rfl, rfl, rfl⟩ := trodAll_nil r2
  obtain rfl : args = #[v0, v1, v2] := by cases args; simp_all
  clear hA0 hval0
  obtain ⟨a0, n0, c0, t0, x0, rfl, m0, J0⟩ := arg_words (hval 0 27 v0 rfl rfl) h0
  obtain ⟨C1, hC1, rfl⟩ := open_cpu (hval 1 38 v1 rfl rfl)
  obtain ⟨k2, s2, o2, z2, y2, rfl, ho2, hy2⟩ := open_op (hval 2 60 v2 rfl rfl)
  exact law_end (by kernel_rfl) hW' rfl (by kernel_rfl) Try.underlying4 rfl rfl (walk W a0 n0 c0 t0 x0 m0 J0 C1 hC1 k2 s2 o2 z2 y2 ho2 hy2)

theorem proved : Rows.VmemBackSaid :=
  OpenClaim.holds_of_wide 6 Try.f6 rfl rfl rfl rfl rfl rfl rfl ⟨rfl, rfl, rfl, rfl, rfl⟩ rfl rfl rfl rfl rfl (by kernel_rfl) Try.func6 (by kernel_rfl)
    (of_decide_eq_true (by kernel_rfl)) (by unfold Func.isWrapper; first | (rw [if_pos (by decide +kernel)]; kernel_rfl) | (rw [if_neg (by decide +kernel)]; exact ⟨rfl, rfl⟩))
    (fun os started H enc _ => lifted os started H enc)
#print axioms proved
end Go.Proofs.Ytknokiadbkgmaaa.vmemBack
