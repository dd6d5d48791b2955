/- vmem: get. -/
import Derived.Test.YtknokiadbkgmaaaVmC
import Derived.LoopN
import Derived.Deep.LoopGhost
namespace Go.Proofs.Ytknokiadbkgmaaa
open Go.RowKit Go.MapKept
set_option linter.unusedVariables false

/-- Where byte j of a span lies. -/
def SpanS.at (s : SpanS) (j : Nat) : Nat := if j < s.n0 then at32 s.a0 j else at32 s.a1 (j - s.n0)
/-- The first j bytes. -/
def getN (R : RS) (s : SpanS) : Nat → Nat
  | 0 => 0
  | j + 1 => getN R s j + R.get (s.at j) * 256 ^ j
theorem getN_lt {R : RS} (h : R.ok) (s : SpanS) (j : Nat) : getN R s j < 256 ^ j := by
  induction j with
  | zero => show 0 < 256 ^ 0; decide
  | succ j ih =>
    show getN R s j + R.get (s.at j) * 256 ^ j < 256 ^ (j + 1)
    have hb := RS.get_lt h (s.at j)
    have : R.get (s.at j) * 256 ^ j ≤ 255 * 256 ^ j := Nat.mul_le_mul_right _ (by omega)
    rw [Nat.pow_succ]
    omega
structure SpanS.ok (s : SpanS) : Prop where
  a0 : s.a0 < 4294967296
  a1 : s.a1 < 4294967296
  n : s.n0 + s.n1 ≤ 4
theorem read_b {W : World} {b : Nat} {S : Nat → Prop} {R : RS} (H : Ram W b S R) (a : Nat) (ha : a < 4294967296) (x : Int) (hx : x = (a : Int)) :
    Calls Try.prog 45 #[.pointer (some ⟨b, 0, .none⟩), .int .u32 x, .int .i64 1] W fun e w' => e = .returned (.tuple #[.int .u32 (R.get a : Nat), .int .i64 0]) ∧ ∃ n, w' = W.drewN n := by
  rw [hx]
  refine (read_1 H a ha).mono ?_
  rintro e w' ⟨he, hw⟩
  have : R.read a 1 = R.get a := by
    show 0 + R.get (at32 a 0) * 256 ^ 0 = R.get a
    have : at32 a 0 = a := by unfold at32; omega
    rw [this]; simp
  rw [this] at he
  exact ⟨he, hw⟩
theorem at_lo (s : SpanS) (j : Nat) (h : j < s.n0) : s.at j = at32 s.a0 j := by unfold SpanS.at; rw [if_pos h]
theorem at_hi (s : SpanS) (j : Nat) : s.at (s.n0 + j) = at32 s.a1 j := by unfold SpanS.at; rw [if_neg (by omega), Nat.add_sub_cancel_left]
theorem index_0 (a b : Int) (W : World) : (Instr.index 87 (.agg #[.int .u32 a, .int .u32 b]) (.int .i64 0)).run Try.prog W = .ok (.int .u32 a) W := by kernel_rfl
theorem index_1 (a b : Int) (W : World) : (Instr.index 87 (.agg #[.int .u32 a, .int .u32 b]) (.int .i64 1)).run Try.prog W = .ok (.int .u32 b) W := by kernel_rfl
section
variable {w : World} {vb : Nat} {places : Pl} {n : Nat} {H : Nat → Prop} {R : RS} {s : SpanS}
set_option maxRecDepth 20000 in
set_option maxHeartbeats 4000000 in
theorem get_span (hV : Vm w vb places n H R) (hs : s.ok) :
    Calls Try.prog 32 #[.pointer (some ⟨vb, 0, none⟩), .agg #[.int .u32 (s.a0 : Nat), .int .u32 (s.a1 : Nat), .int .u32 (s.n0 : Nat), .int .u32 (s.n1 : Nat)]] w fun e w' => e = .returned (.int .u32 (getN R s (s.n0 + s.n1) : Nat)) ∧ Below w.heap.size w w' := by
  have HV := Lib.hid hV
  obtain ⟨t, rb, G, ho, hK, -, -⟩ := hV
  obtain ⟨SR, hR, -, -⟩ := hK.ram
  have HR := Lib.hid hR
  have h0 := hs.a0
  have h1 := hs.a1
  have hn := hs.n
  have HB := Lib.hid ((Below.refl w.heap.size w).alloc (Nat.le_refl _) (.cells #[.int .u32 (s.a0 : Nat), .int .u32 (s.a1 : Nat), .int .u32 (s.n0 : Nat), .int .u32 (s.n1 : Nat)] 89))
  have hx := heap_new w (.cells #[.int .u32 (s.a0 : Nat), .int .u32 (s.a1 : Nat), .int .u32 (s.n0 : Nat), .int .u32 (s.n1 : Nat)] 89)
  have ho2 := heap_alloc_lt (o' := .cells #[.int .u32 (s.a0 : Nat), .int .u32 (s.a1 : Nat), .int .u32 (s.n0 : Nat), .int .u32 (s.n1 : Nat)] 89) ho
  have HR2 := Lib.hid (hR.alloc (.cells #[.int .u32 (s.a0 : Nat), .int .u32 (s.a1 : Nat), .int .u32 (s.n0 : Nat), .int .u32 (s.n1 : Nat)] 89))
  clear hK ho hR hs
  go_enter Try.func32, Try.ntmps32
  go_upto_region 1 with (fail)
  generalize hW : w.alloc (.cells #[.int .u32 (s.a0 : Nat), .int .u32 (s.a1 : Nat), .int .u32 (s.n0 : Nat), .int .u32 (s.n1 : Nat)] 89) = W at *
  generalize hG : w.heap.size = g at *
  have HG := Lib.hid hG
  clear hW hG
  have HO := Lib.hid ho2
  have HX := Lib.hid hx
  have HW : Hid (∃ W0, W0 = W) := Lib.hid ⟨W, rfl⟩
  have c0 := cell_at (k := 0) hx
  have c1 := cell_at (k := 1) hx
  have c2 := cell_at (k := 2) hx
  have c3 := cell_at (k := 3) hx
  have cl := heap_lt hx
  have m0 := cell_at (k := 0) ho2
  have ml := heap_lt ho2
  simp at c0 c1 c2 c3 m0
  clear hx ho2
  go_wp2_with fail
  refine wp_loop_rounds 3 ?_
  rw [rounds_succ]
  have i0 := index_0 (s.a0 : Int) (s.a1 : Int)
  have i1 := index_1 (s.a0 : Int) (s.a1 : Int)
  go_wp2_with fail
  clear i0
  go_loopw [5, 6, 22] (fun v d k wr => ∃ j : Nat, j ≤ s.n0 ∧ v = .int .u32 (getN R s j : Nat) ∧ d = .int .u32 j ∧ k = .int .u32 j ∧ Below W.heap.size W wr) (fun _ _ k _ => s.n0 - (intOf k).toNat)
  case atStart => exact ⟨0, Nat.zero_le _, rfl, rfl, rfl, Below.refl _ _⟩
  case round =>
    obtain ⟨j, hj, rfl, rfl, rfl, hb⟩ := hrel
    have HBW := Lib.hid hb
    have d2 := (hb.cell (p := ⟨g, 2, none⟩) cl).trans c2
    have dl := Nat.lt_of_lt_of_le cl hb.size
    have e0 := (hb.cell (p := ⟨vb, 0, none⟩) ml).trans m0
    have el := Nat.lt_of_lt_of_le ml hb.size
    have hvl := getN_lt HR.out.isok s j
    have HVL := Lib.hid hvl
    clear hvl hb
    by_cases hlt : j < s.n0
    · go_wp2_with fail
      refine (read_b (HR2.out.below HBW.out) (at32 s.a0 j) (at32_lt _ _) _ (by unfold at32; omega)).mono ?_
      rintro e w1 ⟨rfl, n1, rfl⟩
      have hby := RS.get_lt HR.out.isok (at32 s.a0 j)
      have hS := Lib.hid (show getN R s (j + 1) = getN R s (j) + R.get (at32 s.a0 j) * 256 ^ (j) by rw [← at_lo s j hlt]; rfl)
      have hO := Lib.hid (or_shift (getN R s (j)) (R.get (at32 s.a0 j)) (j) HVL.out hby (by omega))
      have hB2 := Lib.hid (HBW.out.trans (below_dn (Below.refl _ _) n1))
      clear d2 dl e0 el
      generalize R.get (at32 s.a0 j) = y at *
      generalize getN R s (j) = v0 at *
      generalize wr.drewN n1 = w2 at *
      go_wp2_with fail
      go_roundw
      case rel => exact ⟨j + 1, by omega, by rw [hS.out, ← hO.out], by go_num, by go_num, hB2.out⟩
      case measure => (simp [intOf]) <;> omega
    · obtain rfl : j = s.n0 := by omega
      clear hlt hj
      go_wp2_with fail
      rw [rounds_succ]
      have d3 := (HBW.out.cell (p := ⟨g, 3, none⟩) cl).trans c3
      clear d2 e0
      go_wp2_with fail
      have HV0 := Lib.hid (HV.out)
      go_loopw [5, 6, 22] (fun v d k w3 => ∃ j : Nat, j ≤ s.n1 ∧ v = .int .u32 (getN R s (s.n0 + j) : Nat) ∧ d = .int .u32 ((s.n0 + j : Nat) : Int) ∧ k = .int .u32 j ∧ Below W.heap.size W w3) (fun _ _ k _ => s.n1 - (intOf k).toNat)
      case atStart => exact ⟨0, Nat.zero_le _, rfl, rfl, rfl, HBW.out⟩
      case round =>
        clear HVL HBW d3 dl el
        obtain ⟨j, hj, rfl, rfl, rfl, hb⟩ := hrel
        rename_i w3
        have HBW := Lib.hid hb
        have d2 := (hb.cell (p := ⟨g, 3, none⟩) cl).trans c3
        have dl := Nat.lt_of_lt_of_le cl hb.size
        have e0 := (hb.cell (p := ⟨vb, 0, none⟩) ml).trans m0
        have el := Nat.lt_of_lt_of_le ml hb.size
        have HVL := Lib.hid (getN_lt HR.out.isok s (s.n0 + j))
        clear hb
        by_cases hlt : j < s.n1
        · go_wp2_with fail
          refine (read_b (HR2.out.below HBW.out) (at32 s.a1 j) (at32_lt _ _) _ (by unfold at32; omega)).mono ?_
          rintro e w1 ⟨rfl, n1, rfl⟩
          have hby := RS.get_lt HR.out.isok (at32 s.a1 j)
          have hS := Lib.hid (show getN R s (s.n0 + j + 1) = getN R s (s.n0 + j) + R.get (at32 s.a1 j) * 256 ^ (s.n0 + j) by rw [← at_hi s j]; rfl)
          have hO := Lib.hid (or_shift (getN R s (s.n0 + j)) (R.get (at32 s.a1 j)) (s.n0 + j) HVL.out hby (by omega))
          have hB2 := Lib.hid (HBW.out.trans (below_dn (Below.refl _ _) n1))
          clear d2 dl e0 el
          generalize R.get (at32 s.a1 j) = y at *
          generalize hq : getN R s (s.n0 + j) = v0 at *
          clear hq
          generalize wr.drewN n1 = w2 at *
          go_wp2_with fail
          go_roundw
          case rel => exact ⟨j + 1, by omega, by rw [show s.n0 + (j + 1) = s.n0 + j + 1 from rfl, hS.out, ← hO.out] <;> push_cast <;> rfl, by push_cast; go_num, by go_num, hB2.out⟩
          case measure => (simp [intOf]) <;> omega
        · obtain rfl : j = s.n1 := by omega
          clear hlt hj
          go_wp2_with fail
          rw [rounds_succ]
          go_wp2_with fail
          go_ret
          exact ⟨rfl, by rw [HG.out]; exact HB.out.trans (HBW.out.mono (Nat.le_of_lt cl))⟩
end
end Go.Proofs.Ytknokiadbkgmaaa
