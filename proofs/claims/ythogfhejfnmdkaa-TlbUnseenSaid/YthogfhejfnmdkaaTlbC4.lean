/- tlb: Find, what is kept. -/
import Derived.Test.YthogfhejfnmdkaaTlbC3
namespace Go.Proofs.Ythogfhejfnmdkaa
open Go.RowKit Go.MapKept
set_option linter.unusedVariables false
theorem size_key (w : World) : (sizeOf 72).run Try.prog w = .ok 5 w := by kernel_rfl
section
variable {w we : World} {t rb mb places n n' gw gr gq gx : Nat} {S S' : Nat → Prop} {ov ov' : Value} {cnt' : Nat} {all' : PKey → Option Ent} {order' : List PKey} {R' : RS} {K : PKey}
set_option maxRecDepth 20000 in
set_option maxHeartbeats 4000000 in
/-- What was found is kept. -/
theorem find_p17_yes {fr pd pt a b : Nat} {xw xu : Bool} {cd : Int} (hM : Mid w we t rb mb S ov places n gw gr gq gx K ⟨fr, pd, pt, xw, xu⟩ S' ov' cnt' all' order' R') (hn : n + 1 ≤ n') (hL : n' * 12 ≤ 140737488355328) (hpl : 0 < places) (ha : a < 4294967296) (hb : b < 4294967296)
    (hyes : a &&& 32 = 32 ∧ b &&& needOf K.wr = needOf K.wr ∧ b / 4096 * 4096 = fr)
    (hG : pd < 4294967296 ∧ pt < 4294967296 ∧ Good K.c K.p K.wr K.us K.wp ⟨fr, pd, pt, xw, xu⟩ a b) {u1 u2 u3 u4 u5 u6 u9 u10 u12 u13 u14 u15 u22 u23 u24 u25 u26 u27 u28 u29 u30 u31 u32 u33 u34 u35 u36 u37 u38 u39 u40 u41 u42 u43 u44 u45 u46 u47 u48 u49 u50 u51 u52 u53 u54 u55 u56 u57 u58 u59 u60 u61 u62 u63 u64 u65 u66 u67 u68 u69 u70 u71 u72 u73 u74 u75 u76 u77 u78 u79 u80 u81 u82 u83 u84 u85 u86 u87 u88 u89 u90 u91 u92 u93 u94 u95 u96 u97 u98 u99 u100 u101 u102 u103 u104 u105 u106 u107 u108 u109 u110 u111 u112 u113 u114 u115 u116 u117 u118 u119 u120 u121 u122 u123 u124 u125 u126 u127 u128 u129 u130 u131 u132 u133 u134 u135 u136 u137 u138 u139 u140 u141 u142 u143 u144 u145 u146 u147 u148 u149 u150 u151 u152 u153 u154 u155 u156 u157 u158 u159 u160 u161 u162 u163 u164 u165 u166 u167 u168 : Value} {nd : Int} (hnd : nd = ((needOf K.wr : Nat) : Int)) {K1 K2 : Act → World → Prop}
    (h1 : ∀ a w1, Code.wp Try.prog (tl Try.f13 17) (Exit.then K2 (bodyPost Try.prog Try.f13 (FindPost w t rb mb S ov places n' (⟨fr, pd, pt, xw, xu⟩, cd, R')))) a w1 → K1 a w1) (h2 : ∀ a w1, Code.wp Try.prog (.seq (rg Try.f13 23) (tl Try.f13 23)) (bodyPost Try.prog Try.f13 (FindPost w t rb mb S ov places n' (⟨fr, pd, pt, xw, xu⟩, cd, R'))) a w1 → K2 a w1) :
    Code.wp Try.prog (rg Try.f13 17) (Exit.then K1 (Exit.then K2 (bodyPost Try.prog Try.f13 (FindPost w t rb mb S ov places n' (⟨fr, pd, pt, xw, xu⟩, cd, R')))))
      ⟨#[.pointer (some ⟨t, 0, none⟩), u1, u2, u3, u4, u5, u6, .pointer (some ⟨gw, 0, none⟩), .pointer (some ⟨gr, 0, none⟩), u9, u10, .pointer (some ⟨gq, 0, none⟩), u12, u13, u14, u15, .pointer (some ⟨gx, 0, none⟩), .int .i64 cd, .int .i64 0, .int .u32 (a : Nat), .int .u32 (b : Nat), .int .u32 nd, u22, u23, u24, u25, u26, u27, u28, u29, u30, u31, u32, u33, u34, u35, u36, u37, u38, u39, u40, u41, u42, u43, u44, u45, u46, u47, u48, u49, u50, u51, u52, u53, u54, u55, u56, u57, u58, u59, u60, u61, u62, u63, u64, u65, u66, u67, u68, u69, u70, u71, u72, u73, u74, u75, u76, u77, u78, u79, u80, u81, u82, u83, u84, u85, u86, u87, u88, u89, u90, u91, u92, u93, u94, u95, u96, u97, u98, u99, u100, u101, u102, u103, u104, u105, u106, u107, u108, u109, u110, u111, u112, u113, u114, u115, u116, u117, u118, u119, u120, u121, u122, u123, u124, u125, u126, u127, u128, u129, u130, u131, u132, u133, u134, u135, u136, u137, u138, u139, u140, u141, u142, u143, u144, u145, u146, u147, u148, u149, u150, u151, u152, u153, u154, u155, u156, u157, u158, u159, u160, u161, u162, u163, u164, u165, u166, u167, u168], []⟩ we := by
  subst hnd
  have HM := Lib.hid hM
  have HN := Lib.hid hn
  have HL := Lib.hid hL
  have HPL := Lib.hid hpl
  have HGD := Lib.hid hG
  obtain ⟨-, -, -, xf, -, xl, -⟩ := hM.L.facts
  obtain ⟨v0, v1, v2, v3, v4, vl⟩ := hM.xf
  have e3 := a4095 b hb
  have e1 : bits .and .u32 (a : Int) 32 = ((a &&& 32 : Nat) : Int) := u32_and_nat a 32 ha (by decide)
  have e2 := u32_and_nat b (needOf K.wr) hb (need_lt _)
  obtain ⟨hA, hB, hC⟩ := hyes
  rw [hA] at e1
  rw [hB] at e2
  have g1 : (bits .and .u32 (a : Int) 32 != 0) = true := by rw [e1]; rfl
  have e1' : ¬ bits .and .u32 (a : Int) 32 = 0 := by rw [e1]; decide
  have g2 : (bits .and .u32 (b : Int) (needOf K.wr : Nat) == ((needOf K.wr : Nat) : Int)) = true := by rw [e2]; simp
  have g3 : ((b : Int) / 4096 * 4096 == (fr : Int)) = true := by simp; omega
  have g3' : (b : Int) / 4096 * 4096 = (fr : Int) := by omega
  have HW : Hid (Mid w we t rb mb S ov places n gw gr gq gx K ⟨fr, pd, pt, xw, xu⟩ S' ov' cnt' all' order' R') := HM
  clear hM hn hL hpl hG hA hB hC e1
  conv => arg 2; whnf
  conv at h1 => enter [a, w1, 1, 2]; whnf
  conv at h2 => enter [a, w1, 1, 2, 1]; whnf
  conv at h2 => enter [a, w1, 1, 2, 2]; whnf
  go_wp2_with fail
  clear xf xl v0 v1 v2 v3 v4 vl e3 e1' e2 g1 g2 g3 g3'
  go_loopg [119] order'.length (fun k s wr => ∃ ov2 cnt2 all2 order2, order2.length = k ∧ Mid w wr t rb mb S ov places n gw gr gq gx K ⟨fr, pd, pt, xw, xu⟩ S' ov2 cnt2 all2 order2 R')
  case atStart => exact ⟨_, _, _, _, rfl, HM.out⟩
  case round =>
    obtain ⟨ov2, cnt2, all2, order2, hlen, hM⟩ := hrel
    have HM2 := Lib.hid hM
    have HLN := Lib.hid hlen
    obtain ⟨k0, k1, k2, k3, kf, kl⟩ := hM.T.facts
    obtain ⟨es, clock, hm, hc⟩ := hM.T.map.size
    have hlm := fun ty m => run_len_map (P := Try.prog) (w := wr.drewN m) 67 ty mb es clock (by kernel_rfl) hm
    rw [hc] at hlm
    have hc1 := hM.T.c1
    have hc2 := hM.T.c2
    have hlm0 := fun ty => run_len_map (P := Try.prog) (w := wr) 67 ty mb es clock (by kernel_rfl) hm
    rw [hc] at hlm0
    clear hM hlen hm hc
    by_cases hfull : cnt2 < places
    · go_wp2_with fail
      go_quiet (fail)
      go_wp2_with fail
      have HM3 := Lib.hid (HM2.out.drewN nq)
      generalize wr.drewN nq = wq at *
      clear k0 k1 k2 k3 kf kl hlm hlm0 hc1 hc2
      obtain ⟨k0, k1, k2, k3, kf, kl⟩ := HM3.out.T.facts
      obtain ⟨⟨z0, z1, z2, z3, z4⟩, -, -, -, -, -, zl⟩ := HM3.out.L.facts
      obtain ⟨v0, v1, v2, v3, v4, vl⟩ := HM3.out.xf
      obtain ⟨w4, hup, M4, K4⟩ := (HM3.out.T.map.drewN 1).update (P := Try.prog) PK Try.underlying67 K (Ent.val ⟨⟨fr, pd, pt, xw, xu⟩, a, b⟩)
      have hup : (Instr.mapUpdate 67 (.map (some mb)) (.agg #[.int .u32 (K.c : Nat), .int .u32 (K.p : Nat), .bool K.wr, .bool K.us, .bool K.wp]) (.agg #[.int .u32 (fr : Nat), .int .u32 (pd : Nat), .int .u32 (pt : Nat), .bool xw, .bool xu, .int .u32 (a : Nat), .int .u32 (b : Nat)])).run Try.prog wq.drew = .ok () w4 := hup
      have HPRE := Lib.hid ((HM3.out.T.drewN 1).put hfull M4 (by split <;> omega) K4 HGD.out)
      have HK4 := Lib.hid K4
      clear M4 K4 hfull
      go_still_tail 9, (by kernel_rfl)
      change wpList _ _ _ _ _ wq.drew
      go_wp2_with fail
      clear k0 k1 k2 k3 kf kl hup
      have hz : ∀ j, w4.cell? ⟨gq, j, none⟩ = wq.cell? ⟨gq, j, none⟩ := fun j => World.cell?_of_block (HK4.out.block gq zl (fun e => HM3.out.g gq (.inr (.inr (.inl rfl))) (.inr (.inl e))))
      replace z0 := (hz 0).trans z0
      replace z1 := (hz 1).trans z1
      replace z2 := (hz 2).trans z2
      replace z3 := (hz 3).trans z3
      replace z4 := (hz 4).trans z4
      replace zl := World.block_lt_of_cell? w4 _ z0
      clear hz v0 v1 v2 v3 v4 vl
      obtain ⟨k0, k1, k2, k3, kf, kl⟩ := HPRE.out.facts
      have hol : (order2.length + 1) * 12 ≤ 140737488355328 := by have := HM3.out.len; have := HN.out; have := HL.out; omega
      have HOL := Lib.hid hol
      clear hol
      have HP1 := Lib.hid (show TlbPre w4.drew t rb mb S' ov2 places _ _ order2 R' K from HPRE.out.drewN 1)
      go_region_law (refine step_append_key (w := w4.drew) HP1.out HOL.out (by rfl) _ _ (by rfl) (by rfl) (by rfl) ?_; intro a6 n6 q6 w6 c6 f6 l6 H6 X6)
      all_goals
        have HM5 := Lib.hid (HM3.out.step H6.out (((((Keeps.refl _ wq).drewN 1).andThen HK4.out fun i _ e => .inr (.inl e)).drewN 1).trans X6.out.1) (fun k hk => (X6.out.2 k hk).imp id (fun h => Nat.le_trans HK4.out.size h)) (show (order2 ++ [K]).length ≤ n + 1 by rw [List.length_append]; exact Nat.succ_le_succ HM3.out.len))
        clear k0 k1 k2 k3 kf kl z0 z1 z2 z3 z4 zl c6 f6 l6 H6 X6 HPRE HP1 HK4 HM3 HM2
        generalize w6.setCell ⟨t, 3, none⟩ (.slice a6 n6 q6) = w7 at *
        go_upto_region 23 with (fail)
        exact find_p23 HM5.out HN.out (by assumption)
    · have hpos : 0 < cnt2 := by have := HPL.out; omega
      obtain ⟨Kx, vx, hx⟩ := map_some HM2.out.T.map hpos
      obtain ⟨K0, rest, rfl⟩ : ∃ K0 rest, order2 = K0 :: rest := by
        cases hA : all2 Kx with
        | none => rw [hA] at hx; cases hx
        | some e =>
          have := HM2.out.T.sub Kx e hA
          cases order2 with
          | nil => cases this
          | cons K0 rest => exact ⟨K0, rest, rfl⟩
      clear hx
      rcases HM2.out.T.ord.2 with ⟨_, h0⟩ | ⟨g, o, cap, cur, hv, hg, h2, h3, h4, h5⟩
      · simp at h0
      · subst hv
        have hcell : ∀ j u, j < 5 → K0.cells[j]? = some u → wr.cell? ⟨g, o + j, none⟩ = some u := fun j u hj hu => by
          have hj2 : j < (K0 :: rest).length * 5 := by simp only [List.length_cons]; omega
          have e : (keysV (K0 :: rest))[j]? = K0.cells[j]? := by
            have : keysV (K0 :: rest) = K0.cells ++ keysV rest := rfl
            rw [this, List.getElem?_append_left (by exact hj)]
          rw [cell_at hg, h5 j hj2, e]; exact hu
        have p0 := hcell 0 _ (by decide) rfl
        have p1 := hcell 1 _ (by decide) rfl
        have p2 := hcell 2 _ (by decide) rfl
        have p3 := hcell 3 _ (by decide) rfl
        have p4 := hcell 4 _ (by decide) rfl
        have pl := heap_lt hg
        have hlen2 : (K0 :: rest).length = rest.length + 1 := rfl
        rw [hlen2] at k3
        have hmx : rest.length + 1 ≤ 1000000000000000 := by have := HM2.out.len; have := HN.out; have := HL.out; omega
        rw [Nat.add_zero] at p0
        have hge : places ≤ cnt2 := by omega
        clear hcell hg h2 h3 h4 h5 hfull
        go_wp2_with fail
        go_quiet (fail)
        go_wp2_with fail
        have HM3 := Lib.hid (HM2.out.drewN nq)
        have hz : ∀ j, (wr.drewN nq).cell? ⟨g, j, none⟩ = wr.cell? ⟨g, j, none⟩ := fun j => World.cell?_of_block rfl
        replace p0 := (hz _).trans p0
        replace p1 := (hz _).trans p1
        replace p2 := (hz _).trans p2
        replace p3 := (hz _).trans p3
        replace p4 := (hz _).trans p4
        have hgl : g < (wr.drewN nq).heap.size := pl
        clear hz pl
        generalize wr.drewN nq = wq at *
        clear k0 k1 k2 k3 kf kl hlm hlm0
        obtain ⟨k0, k1, k2, k3, kf, kl⟩ := HM3.out.T.facts
        rw [hlen2] at k3
        obtain ⟨w4, hdel, M4, K4⟩ := (HM3.out.T.map.drewN 1).delete (P := Try.prog) PK Try.underlying67 K0 72 0
        have hdel : (Builtin.delete_ #[67, 72] 0 #[.map (some mb), .agg #[.int .u32 (K0.c : Nat), .int .u32 (K0.p : Nat), .bool K0.wr, .bool K0.us, .bool K0.wp]]).run Try.prog wq.drew = .ok (.tuple #[]) w4 := hdel
        have hord4 : RowC w4 72 5 (.slice (some ⟨g, o, none⟩) (rest.length + 1) cap) (rest.length + 1) (keysV (K0 :: rest)) :=
          HM3.out.T.ord.of_heap fun k hk => K4.block k (HM3.out.T.ord.lt hk) fun e => HM3.out.T.m_o (by rw [← e]; exact hk)
        obtain ⟨ov7, htl, hord7, hsub⟩ := run_tail_c (P := Try.prog) 68 5 Try.underlying68 (size_key w4) hord4
        obtain ⟨a7, c7, rfl⟩ := hord7.len
        have hT7 := (HM3.out.T.drewN 1).pop M4 (by split <;> omega) K4 hord7 hsub
        have hobj4 : w4.heap[t]? = _ := (K4.block t kl HM3.out.T.t_m).trans HM3.out.T.obj
        have q3 : w4.cell? ⟨t, 3, none⟩ = some (.slice (some ⟨g, o, none⟩) (rest.length + 1) cap) := by rw [cell_at hobj4]; rfl
        have qf : ∀ k, w4.frozen? ⟨t, k, none⟩ = false := fun k => free_at hobj4
        have ql := heap_lt hobj4
        have hM5 := HM3.out.step hT7 ((((Keeps.refl _ wq).drewN 1).andThen K4 fun i _ e => .inr (.inl e)).setCell (.inl (.inl rfl)) _) (fun k hk => .inl (hsub k hk)) (show rest.length ≤ n by have := HM3.out.len; simp only [List.length_cons] at this; omega)
        have HM5 := Lib.hid hM5
        clear M4 K4 hord4 hord7 hsub hT7 hobj4 hM5
        go_still_tail 10, (by kernel_rfl)
        change wpList _ _ _ _ _ wq.drew
        go_wp2_with fail
        go_roundg rest.length
        case rel => exact ⟨_, _, _, _, rfl, HM5.out⟩
        case measure => have := HLN.out; simp only [List.length_cons] at this; omega
end
end Go.Proofs.Ythogfhejfnmdkaa
