/- tlb: Find, the whole. -/
import Derived.Test.YthogfhejfnmdkaaTlbC7b
namespace Go.Proofs.Ythogfhejfnmdkaa
open Go.RowKit Go.MapKept
set_option linter.unusedVariables false
section
variable {w W : World} {t rb mb places gw gr gk cnt cnt0 : Nat} {S : Nat → Prop} {ov : Value} {all all0 : PKey → Option Ent} {order : List PKey} {R : RS} {K : PKey} {lin : Nat}
set_option maxRecDepth 20000 in
set_option maxHeartbeats 4000000 in
theorem tfind (H : TlbIn w t rb mb S ov places cnt all order R) (c lin : Nat) (hc : c < 4294967296) (hl : lin < 4294967296) (wr us wp : Bool) (hL : (order.length + 1) * 12 ≤ 140737488355328) :
    Calls Try.prog 13 #[.pointer (some ⟨t, 0, none⟩), .int .u32 (c : Nat), .int .u32 (lin : Nat), .agg #[.bool wr, .bool us, .bool wp]] w (FindPost w t rb mb S ov places (order.length + 1) (find R c lin wr us wp)) := by
  obtain ⟨K, hK⟩ : ∃ K : PKey, K = ⟨c, lin / 4096, wr, us, wp, hc, by omega⟩ := ⟨_, rfl⟩
  have e0 : K.c = c := by rw [hK]
  have e1 : K.p = lin / 4096 := by rw [hK]
  have e2 : K.wr = wr := by rw [hK]
  have e3 : K.us = us := by rw [hK]
  have e4 : K.wp = wp := by rw [hK]
  rw [← e0, ← e2, ← e3, ← e4]
  clear e0 e2 e3 e4 hK
  clear hc wr us wp c
  have HH := Lib.hid H
  have HL := Lib.hid hL
  have hlt : ∀ k, THeld t mb S ov k → k < w.heap.size := fun k hk => H.lt hk
  have HLT := Lib.hid hlt
  obtain ⟨W, hW⟩ : ∃ W, W = ((w.alloc (.cells #[.bool K.wr, .bool K.us, .bool K.wp] 42)).alloc (.cells #[.int .u32 0, .int .u32 0, .int .u32 0, .bool false, .bool false] 38)).alloc (.cells #[.int .u32 (K.c : Nat), .int .u32 (K.p : Nat), .bool K.wr, .bool K.us, .bool K.wp] 72) := ⟨_, rfl⟩
  have hT : TlbIn W t rb mb S ov places cnt all order R := by rw [hW]; exact ((H.alloc _).alloc _).alloc _
  have hB : Below w.heap.size w W := by rw [hW]; exact (((Below.refl _ _).alloc (Nat.le_refl _) _).alloc (by simp) _).alloc (by simp; omega) _
  have hLo : Loc W w.heap.size (w.heap.size + 1) (w.heap.size + 1 + 1) K := by
    rw [hW]
    refine ⟨?_, ?_, ?_⟩
    · exact heap_alloc_lt (heap_alloc_lt (heap_new w _))
    · exact heap_alloc_lt (by rw [show w.heap.size + 1 = (w.alloc (.cells #[.bool K.wr, .bool K.us, .bool K.wp] 42)).heap.size by simp]; exact heap_new _ _)
    · rw [show w.heap.size + 1 + 1 = ((w.alloc (.cells #[.bool K.wr, .bool K.us, .bool K.wp] 42)).alloc (.cells #[.int .u32 0, .int .u32 0, .int .u32 0, .bool false, .bool false] 38)).heap.size by simp]; exact heap_new _ _
  have HFB := Lib.hid (show FBase w W t rb mb S ov places cnt all order R w.heap.size (w.heap.size + 1) (w.heap.size + 1 + 1) K lin from ⟨hT, hLo, Keeps.ofBelow hB, hlt, ⟨by omega, by omega, by omega⟩, e1.symm, hl⟩)
  have HW := Lib.hid hW
  have HE1 := Lib.hid e1
  obtain ⟨k0, k1, k2, k3, kf, kl⟩ := H.facts
  clear hW hT hB hLo H hL hlt e1 k0 k1 k2 k3 kf
  go_enter Try.func13, Try.ntmps13
  go_upto_region 4 with (fail)
  have hdiv : (lin : Int) / 4096 = ((lin / 4096 : Nat) : Int) := by omega
  rw [hdiv, ← HE1.out, ← HW.out]
  clear hdiv HW HE1 HLT
  cases hA : all K with
  | none => exact find_p4_none HFB.out hA HL.out (by assumption) (by assumption)
  | some e => exact find_p4_some HFB.out hA HL.out (by assumption) (by assumption)
end
end Go.Proofs.Ythogfhejfnmdkaa
