/- ide: the document's disk: a byte is written. -/
import Derived.Test.YtebhnfoehgpilaaIdeY
namespace Go.Proofs.Ytebhnfoehgpilaa
open Go.RowKit
set_option linter.unusedVariables false
set_option linter.unusedSimpArgs false

/-- A buffer's first k bytes laid over a sector. -/
def Dk.flushK (S : Dk) (o k : Nat) : Dk := { S with d := fun i => if o ≤ i ∧ i < o + k then S.buf (i - o) else S.d i }
theorem Dk.flushK_zero (S : Dk) (o : Nat) : S.flushK o 0 = S := by
  have h : (fun i => if o ≤ i ∧ i < o + 0 then S.buf (i - o) else S.d i) = S.d := by funext i; rw [if_neg (by omega)]
  unfold Dk.flushK; rw [h]
theorem Dk.flushK_succ (S : Dk) (o k : Nat) : S.flushK o (k + 1) = { S.flushK o k with d := upd (S.flushK o k).d (o + k) (S.buf k) } := by
  have h : (fun i => if o ≤ i ∧ i < o + (k + 1) then S.buf (i - o) else S.d i) = upd (S.flushK o k).d (o + k) (S.buf k) := by
    funext i
    unfold upd
    show _ = if i = o + k then _ else if o ≤ i ∧ i < o + k then _ else _
    by_cases e : i = o + k
    · rw [if_pos e, if_pos (by omega), show i - o = k by omega]
    · rw [if_neg e]
      by_cases h : o ≤ i ∧ i < o + k
      · rw [if_pos h, if_pos (by omega)]
      · rw [if_neg h, if_neg (by omega)]
  have e : S.flushK o (k + 1) = ({ S with d := fun i => if o ≤ i ∧ i < o + (k + 1) then S.buf (i - o) else S.d i } : Dk) := rfl
  rw [e, h]; rfl
section
variable {w : World} {b : Nat} {ds lv : Value} {D : Dk}
theorem bytesL_set (n : Nat) (d : Nat → Nat) (i v : Nat) : (bytesL n d).set i (.int .u8 (v : Nat)) = bytesL n (upd d i v) := by
  refine List.ext_getElem? fun j => ?_
  rw [List.getElem?_set, bytesL_len]
  by_cases hj : j < n
  · rw [bytesL_at n d j hj, bytesL_at n _ j hj]
    by_cases e : i = j
    · subst e; rw [if_pos rfl, if_pos hj, upd_same]
    · rw [if_neg e, upd_ne _ _ _ _ (fun h => e h.symm)]
  · rw [bytesL_no n d j (by omega), bytesL_no n _ j (by omega)]
    by_cases e : i = j
    · subst e; rw [if_pos rfl, if_neg hj]
    · rw [if_neg e]
/-- One byte of the disk is turned. -/
theorem IdeIn.poke {T : TypeId} (H : IdeIn T w b ds lv D) {g cap i : Nat} (hds : ds = .slice (some ⟨g, 0, none⟩) (D.n * 512) cap) (hi : i < D.n * 512) (v : Nat) (hv : v < 256) :
    ∃ u, w.cell? ⟨g, i, none⟩ = some u ∧ (∀ k, w.frozen? ⟨g, k, none⟩ = false) ∧ g < w.heap.size ∧ IdeIn T (w.setCell ⟨g, i, none⟩ (.int .u8 (v : Nat))) b ds lv { D with d := upd D.d i v } := by
  obtain ⟨g', cap', cur, hds', hg, hc, hcm, hsz, htk⟩ := H.disk.open (by omega)
  rw [hds] at hds'
  simp only [Value.slice.injEq, Option.some.injEq, Addr.mk.injEq, and_true, true_and] at hds'
  obtain ⟨rfl, rfl⟩ := hds'
  have hgb : b ≠ g := fun e => H.d1 (by rw [hds, ← e]; rfl)
  have K : Keeps (· = g) w (w.setCell ⟨g, i, none⟩ (.int .u8 (v : Nat))) := (Keeps.refl _ _).setOne _ _
  have hd : Bytes (w.setCell ⟨g, i, none⟩ (.int .u8 (v : Nat))) ds D.n (upd D.d i v) := by
    refine ⟨by rw [bytesL_len]; omega, .inr ⟨g, cap, cur.setIfInBounds i (.int .u8 (v : Nat)), hds, Nat.zero_le _, heap_set_same _ hg, hc, by unfold maxLen; omega, ?_, ?_⟩⟩
    · rw [Array.size_setIfInBounds]; omega
    · rw [Nat.mul_one, Array.toList_setIfInBounds, List.take_set, htk, bytesL_set]
  refine ⟨_, by rw [cell_at hg]; exact Array.getElem?_eq_getElem (by omega), fun k => free_at hg, heap_lt hg, { obj := ?_, disk := hd, log := row_of_heap H.log fun k hk => K.block k (H.log.lt k hk).2 (fun e => H.d3 g (by rw [hds]; rfl) (by rw [← e]; exact hk)), d1 := H.d1, d2 := H.d2, d3 := H.d3, ok := { H.ok with d := upd_lt H.ok.d i v hv } }⟩
  rw [K.block b (heap_lt H.obj) hgb]; exact H.obj
set_option maxHeartbeats 1000000 in
theorem rput_idle (H : IdeIn 51 w b ds lv D) (v : Int) (hm : D.mode ≠ 2) :
    Calls Try.prog 32 #[.pointer (some ⟨b, 0, none⟩), .int .u8 v] w fun e w' => e = .returned (.tuple #[]) ∧ w = w' := by
  obtain ⟨-, -, -, -, -, -, -, -, -, -, k10, -⟩ := H.facts
  have g : ((D.mode : Int) != 2) = true := by simp; omega
  clear H hm
  go_enter Try.func32, Try.ntmps32
  go_wp2_with fail
  go_returns
  exact ⟨rfl, rfl⟩
set_option maxRecDepth 20000 in
set_option maxHeartbeats 2000000 in
theorem rput_live (H : IdeIn 51 w b ds lv D) (v : Nat) (hv : v < 256) (hm : D.mode = 2) (hd : D.done < 512) (hL : D.log.length < 17592186044416) :
    Calls Try.prog 32 #[.pointer (some ⟨b, 0, none⟩), .int .u8 v] w fun e w' => e = .returned (.tuple #[]) ∧ ∃ lv', IdeIn 51 w' b ds lv' (D.putB v) ∧ Keeps (Held b ds lv) w w' ∧ ∀ k, lv'.ownBlock = some k → lv.ownBlock = some k ∨ w.heap.size ≤ k := by
  obtain ⟨-, -, -, -, -, -, -, -, -, k9, k10, -, -, -, kf, klt⟩ := H.facts
  have kb := H.buf D.done hd
  rw [hm] at k10
  have q0 : (0 : Int) ≤ (D.done : Int) := by omega
  have q1 : (D.done : Int) < 512 := by omega
  have E0 := turned H (Blk.drew (Blk.buf (Blk.of H) D.done v _ rfl hd)) ((Keeps.refl _ w).setOne _ _).drew (Dk.buf_ok H.ok _ v hv) rfl rfl rfl
  have HE := Lib.hid E0
  clear E0
  have HM := Lib.hid hm
  have HOK := Lib.hid H.ok
  have HLL := Lib.hid hL
  clear hL
  clear H hm
  generalize D.buf D.done = u at *
  obtain ⟨dn, hdn⟩ : ∃ dn, dn = D.done := ⟨_, rfl⟩
  rw [← hdn] at k9 kb q0 q1 HE
  have HDN := Lib.hid hdn
  clear hdn hd
  go_enter Try.func32, Try.ntmps32
  go_wp2_with fail
  go_region
  have E := HE.out
  clear HE k9 k10 kf klt kb
  generalize (w.setCell ⟨b, 9 + dn, none⟩ (.int .u8 (v : Nat))).drew = w1 at *
  obtain ⟨H1, K1⟩ := E
  have B2 := Blk.done (Blk.of H1) (dn + 1) ((dn : Int) + 1) (by omega)
  obtain ⟨-, -, -, -, -, -, -, -, -, k9, k10, -, -, -, kf, klt⟩ := H1.facts
  have k9' : w1.cell? ⟨b, 521, none⟩ = some (.int .i64 (dn : Nat)) := by rw [k9, HDN.out]; rfl
  have K2 : Keeps (· = b) w (w1.setCell ⟨b, 521, none⟩ (.int .i64 ((dn : Int) + 1))) := K1.setOne _ _
  have e1 : (D.setBuf dn v).setDone (dn + 1) = D.put1 v := by rw [HDN.out]; rfl
  rw [e1] at B2
  have HH1 := Lib.hid H1
  have HB2 := Lib.hid B2
  clear H1 B2 k9 k10 K1 e1
  by_cases hlt : dn + 1 < 512
  · have g : (dn : Int) + 1 < 512 := by omega
    go_wp2_with fail
    go_returns
    have e : D.putB v = D.put1 v := by unfold Dk.putB; rw [if_pos HM.out, if_pos (by rw [← HDN.out]; exact hlt)]
    rw [e]
    have E := turned HH1.out HB2.out ((Keeps.refl _ w1).setOne _ _) (Dk.put1_ok HOK.out v hv (by rw [← HDN.out]; omega)) rfl rfl rfl
    exact ⟨rfl, lv, E.1, K2.mono fun k _ h => .inl h, fun k h => .inl h⟩
  · have hd2 : dn = 511 := by omega
    have E2 := turned HH1.out HB2.out ((Keeps.refl _ w1).setOne _ _) (Dk.put1_ok HOK.out v hv (by rw [← HDN.out]; omega)) rfl rfl rfl
    have HD2 := Lib.hid hd2
    clear hd2
    go_upto_region 3 with (fail)
    clear HH1 HB2 k9' kf klt hlt
    have HK2 := Lib.hid K2
    clear K2
    generalize w1.setCell ⟨b, 521, none⟩ (.int .i64 ((dn : Int) + 1)) = w2 at *
    obtain ⟨H2, -⟩ := E2
    obtain ⟨-, -, -, -, -, -, -, -, -, k9, k10, k11, -, k13, kf, klt⟩ := H2.facts
    have e9 : (D.put1 v).done = 512 := by show D.done + 1 = 512; rw [← HDN.out, HD2.out]
    rw [e9] at k9
    have k9' : w2.cell? ⟨b, 521, none⟩ = some (.int .i64 512) := k9
    clear e9 k9
    have HH2 := Lib.hid H2
    clear H2
    by_cases hp : (D.put1 v).place < (D.put1 v).n
    · have hn64 := HH2.out.ok.n
      obtain ⟨g, cap, cur, hds, hg, hc, hcm, hsz, htk⟩ := HH2.out.disk.open (by omega)
      have HS := Lib.hid (rthere_in HH2.out)
      rw [decide_eq_true hp] at HS
      have HDS := Lib.hid hds
      have HPP := Lib.hid hp
      have HPL0 := Lib.hid (fun (w1 : World) (h : w1.heap = w2.heap) => rplace_in (HH2.out.of_heap (w' := w1) (fun k _ => by rw [h])))
      have HCAP := Lib.hid (And.intro hc hcm)
      have hL : (D.put1 v).place * 512 + 512 ≤ (D.put1 v).n * 512 := by omega
      have hpl64 : (D.put1 v).place < 64 := by omega
      clear hp hds hg hsz htk hc hcm
      go_wp2_with fail
      refine HS.out.mono ?_
      rintro e w3 ⟨rfl, m0, rfl⟩
      go_wp2_with fail
      refine (HPL0.out (w2.drewN m0) rfl).mono ?_
      rintro e w3 ⟨rfl, m1, rfl⟩
      obtain ⟨p, hpe⟩ : ∃ p, p = (D.put1 v).place := ⟨_, rfl⟩
      have HPE := Lib.hid hpe
      rw [← hpe] at hpl64 hL ⊢
      have HNN := Lib.hid hn64
      obtain ⟨L, hLe⟩ : ∃ L, L = (D.put1 v).n * 512 := ⟨_, rfl⟩
      rw [← hLe] at hL
      have hL2 : L ≤ 32768 := by rw [hLe]; omega
      have HLE := Lib.hid hLe
      clear hpe hLe hn64
      go_wp2_with fail
      go_loopw [6] (fun i wc => ∃ k : Nat, k ≤ 512 ∧ i = .int .i64 k ∧ IdeIn 51 wc b ds lv ((D.put1 v).flushK (p * 512) k) ∧ Keeps (· = g) w2 wc) (fun i _ => 512 - (intOf i).toNat)
      case atStart => exact ⟨0, by omega, rfl, by rw [Dk.flushK_zero]; exact HH2.out.drewN (m0 + m1), (Keeps.refl _ w2).drewN (m0 + m1)⟩
      case round =>
        clear k9' k10 k11 k13 kf klt
        obtain ⟨k, hk, rfl, HI, KI⟩ := hrel
        obtain ⟨j0, -, -, -, -, -, -, -, -, j9, j10, j11, -, j13, jf, jlt⟩ := HI.facts
        have HHI := Lib.hid HI
        have HKI := Lib.hid KI
        clear HI KI
        rw [HDS.out, ← HLE.out] at j0
        by_cases h5 : k < 512
        · have r1 : (0 : Int) ≤ (k : Int) := by omega
          have r2 : (k : Int) < 512 := by omega
          have hcell : wr.cell? ⟨b, 9 + k, none⟩ = some (.int .u8 ((D.put1 v).buf k : Nat)) := HHI.out.buf k h5
          obtain ⟨y, hy⟩ : ∃ y, y = (D.put1 v).buf k := ⟨_, rfl⟩
          have HY := Lib.hid hy
          rw [← hy] at hcell
          clear hy
          have hoff : p * 512 + k < ((D.put1 v).flushK (p * 512) k).n * 512 := by show p * 512 + k < (D.put1 v).n * 512; rw [← HLE.out]; omega
          obtain ⟨u0, hu0, hfu, hgl, HPK⟩ := HHI.out.poke (g := g) (cap := cap) HDS.out hoff y (by rw [HY.out]; exact HHI.out.ok.buf k)
          have HN := Lib.hid (show IdeIn 51 (wr.setCell ⟨g, p * 512 + k, none⟩ (.int .u8 (y : Nat))) b ds lv ((D.put1 v).flushK (p * 512) (k + 1)) from by rw [Dk.flushK_succ, ← HY.out]; exact HPK)
          have hgb : g ≠ b := fun e => HHI.out.d1 (by rw [HDS.out, e]; rfl)
          have HSS := Lib.hid (show (wr.setCell ⟨g, p * 512 + k, none⟩ (.int .u8 (y : Nat))).drew.cell? ⟨b, 0, none⟩ = some (.slice (some ⟨g, 0, none⟩) L cap) ∧ (wr.setCell ⟨g, p * 512 + k, none⟩ (.int .u8 (y : Nat))).drew.cell? ⟨b, 9 + k, none⟩ = some (.int .u8 (y : Nat)) from
            ⟨(Keeps.cell (S := (· = g)) (((Keeps.refl _ wr).setOne (p * 512 + k) _).drew) (cell_block_lt j0) (fun e => hgb e.symm)).trans j0, (Keeps.cell (S := (· = g)) (((Keeps.refl _ wr).setOne (p * 512 + k) _).drew) (cell_block_lt hcell) (fun e => hgb e.symm)).trans hcell⟩)
          have s1 : IntKind.i64.wrap ((p : Int) * 512 + (k : Int)) = (p : Int) * 512 + (k : Int) := wraps_i64 _ (by omega) (by omega)
          have s2 : (0 : Int) ≤ (p : Int) * 512 + (k : Int) := by omega
          have s3 : (p : Int) * 512 + (k : Int) < L := by omega
          have s4 : ((p : Int) * 512 + (k : Int)).toNat = p * 512 + k := by omega
          clear HPK hoff
          go_wp2_with fail
          go_region_held3 (fun w' => w'.cell? ⟨b, 0, none⟩ = some (.slice (some ⟨g, 0, none⟩) L cap) ∧ w'.cell? ⟨b, 9 + k, none⟩ = some (.int .u8 (y : Nat))) (first | exact HSS.out | go_keep) (fail)
          all_goals
            clear s1 s2 s3 s4
            go_wp2_with fail
            go_roundw
            case rel => exact ⟨k + 1, by omega, by go_num, HN.out.drewN 1, (HKI.out.setOne _ _).drew⟩
            case measure => (simp [intOf]) <;> omega
        · have r2 : (512 : Int) ≤ (k : Int) := by omega
          have e5 : k = 512 := by omega
          have HH3 := Lib.hid (show IdeIn 51 wr b ds lv ((D.put1 v).flushAt (p * 512)) from by have h := HHI.out; rw [e5] at h; exact h)
          have K3 := HKI.out
          clear HHI HKI e5 j0 j9 j10 j11 j13 jf jlt h5 hk
          go_upto_region 12 with (fail)
          generalize hWr : wr = W3 at *
          clear hWr
          obtain ⟨o, ho⟩ : ∃ o, o = p * 512 := ⟨_, rfl⟩
          rw [← ho] at HH3
          have HO := Lib.hid (show o = (D.put1 v).place * 512 by rw [ho, HPE.out])
          clear ho
          have hpl : ((D.put1 v).flushAt o).place = (D.put1 v).place := Dk.flushAt_place _ _
          have hplt : (D.put1 v).place < 64 := by have := HPP.out; have := HH2.out.ok.n; omega
          have HPL := Lib.hid hpl
          have HPT := Lib.hid hplt
          have hll : ((D.put1 v).flushAt o).log.length < 17592186044416 := by rw [Dk.flushAt_log, Dk.put1_log]; exact HLL.out
          have HL2 := Lib.hid hll
          clear hll
          have c3 := HH3.out.facts.2.2.2.2.2.2.2.2.2.2.2.2.2.1
          clear hpl hplt
          go_region_law (first
            | (go_simp; refine (rplace_in (w := W3.drew) (HH3.out.drewN 1)).mono ?_; rintro e w4 ⟨rfl, m4, hw4⟩; have HH4 := Lib.hid (show IdeIn 51 w4 b ds lv ((D.put1 v).flushAt o) from by rw [hw4]; exact (HH3.out.drewN 1).drewN m4); have c4 := HH4.out.facts.2.2.2.2.2.2.2.2.2.2.2.2.2.1; have hb4 : b < w4.heap.size := HH4.out.facts.2.2.2.2.2.2.2.2.2.2.2.2.2.2.2; rw [HPL.out]; have HW4 := Lib.hid (show Keeps (Held b ds lv) W3 w4 from by rw [hw4]; exact ((Keeps.refl _ W3).drewN 1).drewN m4); clear hw4; dsimp only)
            | (refine step_append_log HH4.out (D.put1 v).place HPT.out HL2.out (by rfl) _ _ (by rfl) (by rfl) (by rfl) ?_; intro a6 n6 q6 w6 c6 f6 l6 H6 X6))
          all_goals
            have e6 : ((D.put1 v).flushAt o).logAt (D.put1 v).place = (D.put1 v).write := by rw [HO.out]; rfl
            have K5 : Keeps (Held b ds lv) w (w6.setCell ⟨b, 525, none⟩ (.slice a6 n6 q6)) := (((HK2.out.mono fun k _ h => Or.inl h).trans (K3.mono fun k _ h => Or.inr (Or.inl (by rw [h, HDS.out]; rfl)))).trans HW4.out).trans X6.out.1
            have N5 : ∀ k, (Value.slice a6 n6 q6).ownBlock = some k → lv.ownBlock = some k ∨ w.heap.size ≤ k := fun k h => (X6.out.2 k h).imp id (fun h => Nat.le_trans (Nat.le_trans HK2.out.size (Nat.le_trans K3.size HW4.out.size)) h)
            rw [e6] at H6
            have HK5 := Lib.hid K5
            have HN5 := Lib.hid N5
            clear X6 c6 f6 l6 c4 hb4 K5 N5 e6
            generalize w6.setCell ⟨b, 525, none⟩ (.slice a6 n6 q6) = w7 at *
            go_wp2_with fail
            refine (rone_in H6.out).mono ?_
            rintro e w8 ⟨rfl, H8, K8⟩
            obtain ⟨-, -, -, -, -, -, -, -, -, -, -, j11, -, -, jf, jlt⟩ := H8.facts
            have HH8 := Lib.hid H8
            clear H8
            go_wp2_with fail
            go_end0
            have e : D.putB v = ({ (D.put1 v).write.next with mark := true } : Dk) := Dk.putB_full D v HM.out (by rw [← HDN.out, HD2.out]; decide) HPP.out
            rw [e]
            have E := turned HH8.out (Blk.mark (Blk.of HH8.out) true) ((Keeps.refl _ w8).setOne _ _) (Dk.marked_ok HH8.out.ok) rfl rfl rfl
            exact ⟨rfl, .slice a6 n6 q6, E.1, HK5.out.trans ((K8.trans E.2).mono fun k _ h => .inl h), HN5.out⟩
    · have HS := Lib.hid (rthere_in HH2.out)
      rw [decide_eq_false hp] at HS
      have HPP := Lib.hid hp
      clear hp
      go_wp2_with fail
      refine HS.out.mono ?_
      rintro e w3 ⟨rfl, m, rfl⟩
      go_wp2_with fail
      refine (rfail_in (HH2.out.drewN m) 16 (by decide)).mono ?_
      rintro e w4 ⟨rfl, H4, K4⟩
      go_wp2_with fail
      go_returns
      have e : D.putB v = (D.put1 v).fail 16 := Dk.putB_gone D v HM.out (by rw [← HDN.out, HD2.out]; decide) HPP.out
      rw [e]
      exact ⟨rfl, lv, H4, ((HK2.out.drewN m).trans K4).mono fun k _ h => .inl h, fun k h => .inl h⟩
end
end Go.Proofs.Ytebhnfoehgpilaa
