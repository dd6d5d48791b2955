/- tlb: Find, from the walk through memory on. -/
import Derived.Test.YthogfhejfnmdkaaTlbC4
import Derived.Deep.RegionWith
namespace Go.Proofs.Ythogfhejfnmdkaa
open Go.RowKit Go.MapKept
set_option linter.unusedVariables false
section
variable {w we : World} {t rb mb places n gw gr gk gx cnt : Nat} {S S' : Nat → Prop} {ov : Value} {all : PKey → Option Ent} {order : List PKey} {R R' : RS} {K : PKey} {lin : Nat}
set_option maxRecDepth 20000 in
set_option maxHeartbeats 4000000 in
theorem find_p11 {fr pd pt : Nat} {xw xu : Bool} {cd : Int} (hM : Mid w we t rb mb S ov places n gw gr gk gx K ⟨fr, pd, pt, xw, xu⟩ S' ov cnt all order R') (hL : (n + 1) * 12 ≤ 140737488355328) (hW : Wide R) (hl : lin < 4294967296) (hp : lin / 4096 = K.p)
    (hr : find R K.c lin K.wr K.us K.wp = (⟨fr, pd, pt, xw, xu⟩, cd, R')) {u4 u5 u6 u9 u10 u12 u13 u14 u15 u19 u20 u21 u22 u23 u24 u25 u26 u27 u28 u29 u30 u31 u32 u33 u34 u35 u36 u37 u38 u39 u40 u41 u42 u43 u44 u45 u46 u47 u48 u49 u50 u51 u52 u53 u54 u55 u56 u57 u58 u59 u60 u61 u62 u63 u64 u65 u66 u67 u68 u69 u70 u71 u72 u73 u74 u75 u76 u77 u78 u79 u80 u81 u82 u83 u84 u85 u86 u87 u88 u89 u90 u91 u92 u93 u94 u95 u96 u97 u98 u99 u100 u101 u102 u103 u104 u105 u106 u107 u108 u109 u110 u111 u112 u113 u114 u115 u116 u117 u118 u119 u120 u121 u122 u123 u124 u125 u126 u127 u128 u129 u130 u131 u132 u133 u134 u135 u136 u137 u138 u139 u140 u141 u142 u143 u144 u145 u146 u147 u148 u149 u150 u151 u152 u153 u154 u155 u156 u157 u158 u159 u160 u161 u162 u163 u164 u165 u166 u167 u168 : Value} {K1 K2 : Act → World → Prop}
    (h1 : ∀ a w1, Code.wp Try.prog (tl Try.f13 11) (Exit.then K2 (bodyPost Try.prog Try.f13 (FindPost w t rb mb S ov places (n + 1) (⟨fr, pd, pt, xw, xu⟩, cd, R')))) a w1 → K1 a w1) (h2 : ∀ a w1, Code.wp Try.prog (.seq (rg Try.f13 13) (tl Try.f13 13)) (bodyPost Try.prog Try.f13 (FindPost w t rb mb S ov places (n + 1) (⟨fr, pd, pt, xw, xu⟩, cd, R'))) a w1 → K2 a w1) :
    Code.wp Try.prog (rg Try.f13 11) (Exit.then K1 (Exit.then K2 (bodyPost Try.prog Try.f13 (FindPost w t rb mb S ov places (n + 1) (⟨fr, pd, pt, xw, xu⟩, cd, R')))))
      ⟨#[.pointer (some ⟨t, 0, none⟩), .int .u32 (K.c : Nat), .int .u32 (lin : Nat), .agg #[.bool K.wr, .bool K.us, .bool K.wp], u4, u5, u6, .pointer (some ⟨gw, 0, none⟩), .pointer (some ⟨gr, 0, none⟩), u9, u10, .pointer (some ⟨gk, 0, none⟩), u12, u13, u14, u15, .pointer (some ⟨gx, 0, none⟩), .int .i64 cd, .int .i64 0, u19, u20, u21, u22, u23, u24, u25, u26, u27, u28, u29, u30, u31, u32, u33, u34, u35, u36, u37, u38, u39, u40, u41, u42, u43, u44, u45, u46, u47, u48, u49, u50, u51, u52, u53, u54, u55, u56, u57, u58, u59, u60, u61, u62, u63, u64, u65, u66, u67, u68, u69, u70, u71, u72, u73, u74, u75, u76, u77, u78, u79, u80, u81, u82, u83, u84, u85, u86, u87, u88, u89, u90, u91, u92, u93, u94, u95, u96, u97, u98, u99, u100, u101, u102, u103, u104, u105, u106, u107, u108, u109, u110, u111, u112, u113, u114, u115, u116, u117, u118, u119, u120, u121, u122, u123, u124, u125, u126, u127, u128, u129, u130, u131, u132, u133, u134, u135, u136, u137, u138, u139, u140, u141, u142, u143, u144, u145, u146, u147, u148, u149, u150, u151, u152, u153, u154, u155, u156, u157, u158, u159, u160, u161, u162, u163, u164, u165, u166, u167, u168], []⟩ we := by
  have HM := Lib.hid hM
  have HL := Lib.hid hL
  have HR := Lib.hid hr
  have HW := Lib.hid hW
  have HP := Lib.hid hp
  obtain ⟨hwR, hpd, hpt, hcd⟩ := find_parts hW K.hc hl hr
  have HWR := Lib.hid hwR
  obtain ⟨k0, k1, k2, k3, kf, kl⟩ := hM.T.facts
  obtain ⟨-, ⟨y0, y1, y2⟩, ⟨x0, x1, x2, x3, x4⟩, xf, yl, xl, -⟩ := hM.L.facts
  obtain ⟨v0, v1, v2, v3, v4, vl⟩ := hM.xf
  clear hM hL hW hr hwR hp
  conv => arg 2; whnf
  conv at h1 => enter [a, w1, 1, 2]; whnf
  conv at h2 => enter [a, w1, 1, 2, 1]; whnf
  conv at h2 => enter [a, w1, 1, 2, 2]; whnf
  by_cases hback : 0 ≤ cd ∨ places = 0
  · have HCS := Lib.hid (cell_sets HM.out.L.res (.int .u32 (fr : Nat)) (.int .u32 (pd : Nat)) (.int .u32 (pt : Nat)) (.bool xw) (.bool xu))
    have HFin := Lib.hid (HM.out.fin (Nat.le_succ _) (.int .u32 (fr : Nat)) (.int .u32 (pd : Nat)) (.int .u32 (pt : Nat)) (.bool xw) (.bool xu))
    have hway : 0 ≤ cd ∨ (cd = -1 ∧ places = 0) := by omega
    clear hback hcd k0 k2 k3 kf y0 y1 y2 yl hpd hpt hl
    rcases hway with hcd | ⟨rfl, hp0⟩
    · go_wp2_with fail
      change bodyPost _ _ _ _ _ (sets5 we gr (.int .u32 (fr : Nat)) (.int .u32 (pd : Nat)) (.int .u32 (pt : Nat)) (.bool xw) (.bool xu))
      obtain ⟨r0, r1, r2, r3, r4⟩ := HCS.out
      clear x0 x1 x2 x3 x4 v0 v1 v2 v3 v4 k1 kl xf xl vl HCS
      generalize sets5 we gr (.int .u32 (fr : Nat)) (.int .u32 (pd : Nat)) (.int .u32 (pt : Nat)) (.bool xw) (.bool xu) = Wf at *
      refine bodyPost_ret (v := .tuple #[.agg #[.int .u32 (fr : Nat), .int .u32 (pd : Nat), .int .u32 (pt : Nat), .bool xw, .bool xu], .int .i64 cd, .int .i64 0]) (by simp [results, Try.results13, go_sem, r0, r1, r2, r3, r4]) rfl ?_
      exact ⟨rfl, HFin.out⟩
    · have hpz : ((places : Int) == 0) = true := by rw [hp0]; rfl
      have HP0 := Lib.hid hp0
      clear hp0
      go_wp2_with fail
      change bodyPost _ _ _ _ _ (sets5 we gr (.int .u32 (fr : Nat)) (.int .u32 (pd : Nat)) (.int .u32 (pt : Nat)) (.bool xw) (.bool xu))
      obtain ⟨r0, r1, r2, r3, r4⟩ := HCS.out
      clear x0 x1 x2 x3 x4 v0 v1 v2 v3 v4 k1 kl xf xl vl HCS
      generalize sets5 we gr (.int .u32 (fr : Nat)) (.int .u32 (pd : Nat)) (.int .u32 (pt : Nat)) (.bool xw) (.bool xu) = Wf at *
      refine bodyPost_ret (v := .tuple #[.agg #[.int .u32 (fr : Nat), .int .u32 (pd : Nat), .int .u32 (pt : Nat), .bool xw, .bool xu], .int .i64 (-1), .int .i64 0]) (by simp [results, Try.results13, go_sem, r0, r1, r2, r3, r4]) rfl ?_
      exact ⟨rfl, HFin.out⟩
  · obtain rfl : cd = -1 := by omega
    have hpl : 0 < places := by omega
    have hpz : ((places : Int) == 0) = false := by simp; omega
    have HPL := Lib.hid hpl
    clear hback hcd x0 x1 x2 x3 x4 xf xl
    go_wp2_with fail
    refine (words_any HM.out.T ⟨fr, pd, pt, xw, xu⟩ hpd hpt).mono ?_
    rintro e' w2 ⟨rfl, hB2⟩
    have HM2 := Lib.hid (HM.out.below hB2)
    clear HM k0 k1 k2 k3 kf kl y0 y1 y2 yl v0 v1 v2 v3 v4 vl hB2 hpz hpl
    obtain ⟨-, ⟨y0, -, -⟩, -, -, yl, -, -⟩ := HM2.out.L.facts
    have ha := RS.read_lt HWR.out.ok pd 4
    have hb := RS.read_lt HWR.out.ok pt 4
    have hgood := fun h1 h2 h3 => (good_of HW.out K.c lin K.hc hl K.wr K.us K.wp ⟨fr, pd, pt, xw, xu⟩ R' HR.out h1 h2 h3).2
    have HGG := Lib.hid hgood
    clear hgood
    generalize hav : R'.read pd 4 = a at *
    generalize hbv : R'.read pt 4 = b at *
    have ha' : a < 4294967296 := ha
    have hb' : b < 4294967296 := hb
    have HAV := Lib.hid hav
    have HBV := Lib.hid hbv
    have HPD := Lib.hid hpd
    have HPT := Lib.hid hpt
    clear ha hb hav hbv hpd hpt
    by_cases hall : a &&& 32 = 32 ∧ b &&& needOf K.wr = needOf K.wr ∧ b / 4096 * 4096 = fr
    · have HALL := Lib.hid hall
      clear hall
      cases hwr : K.wr
      all_goals
        have HWW := Lib.hid hwr
        rw [hwr] at y0
        clear hwr
        go_upto_region 17 with (fail)
        exact find_p17_yes HM2.out (Nat.le_refl _) HL.out HPL.out ha' hb' HALL.out ⟨HPD.out, HPT.out, by have := HGG.out; rw [HP.out] at this; exact this HALL.out.1 HALL.out.2.1 HALL.out.2.2⟩ (by rw [HWW.out]; rfl) (by assumption) (by assumption)
    · have HALL := Lib.hid hall
      clear hall
      cases hwr : K.wr
      all_goals
        have HWW := Lib.hid hwr
        rw [hwr] at y0
        clear hwr
        go_upto_region 17 with (fail)
        exact find_p17_no HM2.out (Nat.le_succ _) ha' hb' HALL.out (by rw [HWW.out]; rfl) (by assumption) (by assumption)
end
end Go.Proofs.Ythogfhejfnmdkaa
