/- tlb: Find, what is kept. -/
import Derived.Test.YthogfhejfnmdkaaTlbC2
import Derived.Laws.BitsAll
namespace Go.Proofs.Ythogfhejfnmdkaa
open Go.RowKit Go.MapKept
set_option linter.unusedVariables false
section
variable {w we : World} {t rb mb places n n' gw gr gk gx : Nat} {S S' : Nat → Prop} {ov ov' : Value} {cnt' : Nat} {all' : PKey → Option Ent} {order' : List PKey} {R' : RS} {K : PKey}
theorem need_lt (x : Bool) : needOf x < 4294967296 := by cases x <;> decide
theorem and_32 (a : Nat) : a &&& 32 = 0 ∨ a &&& 32 = 32 := by
  have hz : ∀ j, j ≠ 5 → (32 : Nat).testBit j = false := fun j hj => by
    rw [show (32 : Nat) = 2 ^ 5 from rfl, Nat.testBit_two_pow]; simp; omega
  cases h : a.testBit 5
  · left
    refine Nat.eq_of_testBit_eq fun j => ?_
    rw [Nat.testBit_and, Nat.zero_testBit]
    by_cases e : j = 5
    · subst e; rw [h]; rfl
    · rw [hz j e]; simp
  · right
    refine Nat.eq_of_testBit_eq fun j => ?_
    rw [Nat.testBit_and]
    by_cases e : j = 5
    · subst e; rw [h]; rfl
    · rw [hz j e]; simp
theorem map_some {κ : Type} {W : World} {r n : Nat} {val : κ → Value} {f : κ → Option Value} (h : MapK W r val f n) (hn : 0 < n) : ∃ K v, f K = some v := by
  obtain ⟨es, clock, hb, h1, h2, h3, h4⟩ := h
  have hx : es[0]'(by omega) ∈ es.toList := by simp
  obtain ⟨K, hK⟩ := h2 _ hx
  exact ⟨K, _, (h3 K _).2 ⟨_, hx, hK, rfl⟩⟩
set_option maxRecDepth 20000 in
set_option maxHeartbeats 4000000 in
/-- One of the three tests fails. -/
theorem find_p17_no {fr pd pt a b : Nat} {xw xu : Bool} {cd : Int} (hM : Mid w we t rb mb S ov places n gw gr gk gx K ⟨fr, pd, pt, xw, xu⟩ S' ov' cnt' all' order' R') (hn : n ≤ n') (ha : a < 4294967296) (hb : b < 4294967296)
    (hno : ¬ (a &&& 32 = 32 ∧ b &&& needOf K.wr = needOf K.wr ∧ b / 4096 * 4096 = fr)) {u1 u2 u3 u4 u5 u6 u9 u10 u12 u13 u14 u15 u22 u23 u24 u25 u26 u27 u28 u29 u30 u31 u32 u33 u34 u35 u36 u37 u38 u39 u40 u41 u42 u43 u44 u45 u46 u47 u48 u49 u50 u51 u52 u53 u54 u55 u56 u57 u58 u59 u60 u61 u62 u63 u64 u65 u66 u67 u68 u69 u70 u71 u72 u73 u74 u75 u76 u77 u78 u79 u80 u81 u82 u83 u84 u85 u86 u87 u88 u89 u90 u91 u92 u93 u94 u95 u96 u97 u98 u99 u100 u101 u102 u103 u104 u105 u106 u107 u108 u109 u110 u111 u112 u113 u114 u115 u116 u117 u118 u119 u120 u121 u122 u123 u124 u125 u126 u127 u128 u129 u130 u131 u132 u133 u134 u135 u136 u137 u138 u139 u140 u141 u142 u143 u144 u145 u146 u147 u148 u149 u150 u151 u152 u153 u154 u155 u156 u157 u158 u159 u160 u161 u162 u163 u164 u165 u166 u167 u168 : Value} {nd : Int} (hnd : nd = ((needOf K.wr : Nat) : Int)) {K1 K2 : Act → World → Prop}
    (h1 : ∀ a w1, Code.wp Try.prog (tl Try.f13 17) (Exit.then K2 (bodyPost Try.prog Try.f13 (FindPost w t rb mb S ov places n' (⟨fr, pd, pt, xw, xu⟩, cd, R')))) a w1 → K1 a w1) (h2 : ∀ a w1, Code.wp Try.prog (.seq (rg Try.f13 23) (tl Try.f13 23)) (bodyPost Try.prog Try.f13 (FindPost w t rb mb S ov places n' (⟨fr, pd, pt, xw, xu⟩, cd, R'))) a w1 → K2 a w1) :
    Code.wp Try.prog (rg Try.f13 17) (Exit.then K1 (Exit.then K2 (bodyPost Try.prog Try.f13 (FindPost w t rb mb S ov places n' (⟨fr, pd, pt, xw, xu⟩, cd, R')))))
      ⟨#[.pointer (some ⟨t, 0, none⟩), u1, u2, u3, u4, u5, u6, .pointer (some ⟨gw, 0, none⟩), .pointer (some ⟨gr, 0, none⟩), u9, u10, .pointer (some ⟨gk, 0, none⟩), u12, u13, u14, u15, .pointer (some ⟨gx, 0, none⟩), .int .i64 cd, .int .i64 0, .int .u32 (a : Nat), .int .u32 (b : Nat), .int .u32 nd, u22, u23, u24, u25, u26, u27, u28, u29, u30, u31, u32, u33, u34, u35, u36, u37, u38, u39, u40, u41, u42, u43, u44, u45, u46, u47, u48, u49, u50, u51, u52, u53, u54, u55, u56, u57, u58, u59, u60, u61, u62, u63, u64, u65, u66, u67, u68, u69, u70, u71, u72, u73, u74, u75, u76, u77, u78, u79, u80, u81, u82, u83, u84, u85, u86, u87, u88, u89, u90, u91, u92, u93, u94, u95, u96, u97, u98, u99, u100, u101, u102, u103, u104, u105, u106, u107, u108, u109, u110, u111, u112, u113, u114, u115, u116, u117, u118, u119, u120, u121, u122, u123, u124, u125, u126, u127, u128, u129, u130, u131, u132, u133, u134, u135, u136, u137, u138, u139, u140, u141, u142, u143, u144, u145, u146, u147, u148, u149, u150, u151, u152, u153, u154, u155, u156, u157, u158, u159, u160, u161, u162, u163, u164, u165, u166, u167, u168], []⟩ we := by
  subst hnd
  have HM := Lib.hid hM
  have HN := Lib.hid hn
  obtain ⟨-, -, -, xf, -, xl, -⟩ := hM.L.facts
  obtain ⟨v0, v1, v2, v3, v4, vl⟩ := hM.xf
  have e3 := a4095 b hb
  have e1 : bits .and .u32 (a : Int) 32 = ((a &&& 32 : Nat) : Int) := u32_and_nat a 32 ha (by decide)
  have e2 := u32_and_nat b (needOf K.wr) hb (need_lt _)
  clear hM hn
  conv => arg 2; whnf
  conv at h1 => enter [a, w1, 1, 2]; whnf
  conv at h2 => enter [a, w1, 1, 2, 1]; whnf
  conv at h2 => enter [a, w1, 1, 2, 2]; whnf
  rcases and_32 a with hA | hA
  · rw [hA] at e1
    have g1 : (bits .and .u32 (a : Int) 32 != 0) = false := by rw [e1]; rfl
    have e1' : bits .and .u32 (a : Int) 32 = 0 := e1
    have HX := Lib.hid e2
    clear hno hA e1 e2
    go_upto_region 23 with (fail)
    exact find_p23 HM.out HN.out (by assumption)
  · rw [hA] at e1
    have g1 : (bits .and .u32 (a : Int) 32 != 0) = true := by rw [e1]; rfl
    have e1' : ¬ bits .and .u32 (a : Int) 32 = 0 := by rw [e1]; decide
    by_cases hB : b &&& needOf K.wr = needOf K.wr
    · have h3 : ¬ b / 4096 * 4096 = fr := fun h => hno ⟨hA, hB, h⟩
      rw [hB] at e2
      have g2 : (bits .and .u32 (b : Int) (needOf K.wr : Nat) == ((needOf K.wr : Nat) : Int)) = true := by rw [e2]; simp
      have g3 : ((b : Int) / 4096 * 4096 == (fr : Int)) = false := by simp; omega
      have h3' : ¬ (b : Int) / 4096 * 4096 = (fr : Int) := by omega
      clear hno hA hB e1 h3
      go_upto_region 23 with (fail)
      exact find_p23 HM.out HN.out (by assumption)
    · have g2 : (bits .and .u32 (b : Int) (needOf K.wr : Nat) == ((needOf K.wr : Nat) : Int)) = false := by rw [e2]; simp; omega
      have g2' : ¬ bits .and .u32 (b : Int) (needOf K.wr : Nat) = ((needOf K.wr : Nat) : Int) := by rw [e2]; omega
      clear hno hA hB e1 e2
      go_upto_region 23 with (fail)
      exact find_p23 HM.out HN.out (by assumption)
end
end Go.Proofs.Ythogfhejfnmdkaa
