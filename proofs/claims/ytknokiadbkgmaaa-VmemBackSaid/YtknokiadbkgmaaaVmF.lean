/- vmem: put. -/
import Derived.Test.YtknokiadbkgmaaaVmE
namespace Go.Proofs.Ytknokiadbkgmaaa
open Go.RowKit Go.MapKept
set_option linter.unusedVariables false

theorem Wide.wrb {R : RS} (h : Wide R) (a v : Nat) : Wide (R.wr a (v % 256)) := (h.wr a (v % 256) (Nat.mod_lt _ (by decide))).1
/-- The first j bytes of v are put. -/
def putN (R : RS) (s : SpanS) (v : Nat) : Nat → RS
  | 0 => R
  | j + 1 => (putN R s v j).wr (s.at j) (v / 256 ^ j % 256)
theorem write_b {W : World} {b : Nat} {S : Nat → Prop} {R : RS} (H : Ram W b S R) (a v : Nat) (ha : a < 4294967296) (hv : v < 4294967296) (x y : Int) (hx : x = (a : Int)) (hy : y = (v : Int)) :
    Calls Try.prog 26 #[.pointer (some ⟨b, 0, .none⟩), .int .u32 x, .int .i64 1, .int .u32 y] W fun e w' => e = .returned (.int .i64 0) ∧ ∃ S', Ram w' b S' (R.wr a (v % 256)) ∧ Moves S S' W w' := by
  rw [hx, hy]
  refine (write_1 H a v ha hv).mono ?_
  rintro e w' ⟨he, S', hR, M⟩
  have : R.write a v 1 = R.wr a (v % 256) := by
    show R.wr (at32 a 0) (v / 256 ^ 0 % 256) = _
    have : at32 a 0 = a := by unfold at32; omega
    rw [this]; simp
  rw [this] at hR
  exact ⟨he, S', hR, M⟩
def spanCells (s : SpanS) : Array Value := #[.int .u32 (s.a0 : Nat), .int .u32 (s.a1 : Nat), .int .u32 (s.n0 : Nat), .int .u32 (s.n1 : Nat)]
/-- Where put stands. -/
def PutAt (w wr : World) (t rb : Nat) (places : Pl) (n : Nat) (G : Nat → Prop) (R1 : RS) (g : Nat) (s : SpanS) : Prop :=
  ∃ G', Kq wr t rb places n G' R1 ∧ Moves G G' w wr ∧ wr.heap[g]? = some (.cells (spanCells s) 89) ∧ ¬ G' g
theorem PutAt.box {w wr : World} {t rb : Nat} {places : Pl} {n : Nat} {G : Nat → Prop} {R1 : RS} {g : Nat} {s : SpanS} (h : PutAt w wr t rb places n G R1 g s) :
    wr.cell? ⟨g, 2, none⟩ = some (.int .u32 (s.n0 : Nat)) ∧ wr.cell? ⟨g, 3, none⟩ = some (.int .u32 (s.n1 : Nat)) ∧ g < wr.heap.size := by
  obtain ⟨G', _, _, hx, _⟩ := h
  exact ⟨by rw [cell_at hx]; rfl, by rw [cell_at hx]; rfl, heap_lt hx⟩
theorem PutAt.obj {w wr : World} {t rb : Nat} {places : Pl} {n : Nat} {G : Nat → Prop} {R1 : RS} {g : Nat} {s : SpanS} (h : PutAt w wr t rb places n G R1 g s) {vb : Nat} {o : Value} {p : Value} (ho : w.heap[vb]? = some (.cells #[o, p] 83)) (hn : ¬ G vb) : wr.cell? ⟨vb, 0, none⟩ = some o ∧ vb < wr.heap.size := by
  obtain ⟨G', _, M, _, _⟩ := h
  have e := (M.1.block vb (heap_lt ho) hn).trans ho
  exact ⟨by rw [cell_at e]; rfl, heap_lt e⟩
theorem PutAt.write {w wr : World} {t rb : Nat} {places : Pl} {n : Nat} {G : Nat → Prop} {R1 : RS} {g : Nat} {s : SpanS} (h : PutAt w wr t rb places n G R1 g s) (a v : Nat) (ha : a < 4294967296) (hv : v < 4294967296) (x y : Int) (hx : x = (a : Int)) (hy : y = (v : Int)) :
    Calls Try.prog 26 #[.pointer (some ⟨rb, 0, .none⟩), .int .u32 x, .int .i64 1, .int .u32 y] wr fun e w' => e = .returned (.int .i64 0) ∧ PutAt w w' t rb places n G (R1.wr a (v % 256)) g s := by
  obtain ⟨G', hK, M, hbx, hg⟩ := h
  have hW := hK.wide
  obtain ⟨S, hR, hS, f⟩ := hK.ram
  refine (write_b hR a v ha hv x y hx hy).mono ?_
  rintro e w' ⟨he, S', hR', M'⟩
  obtain ⟨G2, hK2, M2⟩ := f hR' M' (hW.wrb a v)
  refine ⟨he, G2, hK2, M.trans M2, (M2.1.block g (heap_lt hbx) hg).trans hbx, fun h => ?_⟩
  rcases M2.2 g h with h | h
  · exact hg h
  · have := heap_lt hbx; omega
section
variable {w : World} {vb : Nat} {places : Pl} {n : Nat} {H : Nat → Prop} {R : RS} {s : SpanS}
set_option maxRecDepth 20000 in
set_option maxHeartbeats 4000000 in
theorem put_span (hV : Vm w vb places n H R) (hs : s.ok) (v : Nat) (hv : v < 4294967296) :
    Calls Try.prog 38 #[.pointer (some ⟨vb, 0, none⟩), .agg #[.int .u32 (s.a0 : Nat), .int .u32 (s.a1 : Nat), .int .u32 (s.n0 : Nat), .int .u32 (s.n1 : Nat)], .int .u32 (v : Nat)] w fun e w' => e = .returned (.tuple #[]) ∧ ∃ H', Vm w' vb places n H' (putN R s v (s.n0 + s.n1)) ∧ Moves H H' w w' := by
  obtain ⟨t, rb, G, ho, hK, hn, hH⟩ := hV
  have h0 := hs.a0
  have h1 := hs.a1
  have hn4 := hs.n
  have HO := Lib.hid ho
  have HN := Lib.hid hn
  have HHH := Lib.hid hH
  have HP : Hid (PutAt w (w.alloc (.cells #[.int .u32 (s.a0 : Nat), .int .u32 (s.a1 : Nat), .int .u32 (s.n0 : Nat), .int .u32 (s.n1 : Nat)] 89)) t rb places n G R w.heap.size s) :=
    Lib.hid ⟨G, hK.of_heap fun k hk => Below.heap_alloc _ _ _ (hK.lt k hk), Moves.ofBelow ((Below.refl w.heap.size w).alloc (Nat.le_refl _) _), heap_new w _, fun h => by have := hK.lt _ h; omega⟩
  have hx := heap_new w (.cells #[.int .u32 (s.a0 : Nat), .int .u32 (s.a1 : Nat), .int .u32 (s.n0 : Nat), .int .u32 (s.n1 : Nat)] 89)
  have i0 := index_0 (s.a0 : Int) (s.a1 : Int)
  have i1 := index_1 (s.a0 : Int) (s.a1 : Int)
  clear hK ho hs hn hH
  go_enter Try.func38, Try.ntmps38
  go_upto_region 1 with (fail)
  generalize w.alloc (.cells #[.int .u32 (s.a0 : Nat), .int .u32 (s.a1 : Nat), .int .u32 (s.n0 : Nat), .int .u32 (s.n1 : Nat)] 89) = W at *
  generalize w.heap.size = g at *
  have c0 := cell_at (k := 0) hx
  have c1 := cell_at (k := 1) hx
  have c2 := cell_at (k := 2) hx
  have cl := heap_lt hx
  simp at c0 c1 c2
  clear hx
  go_wp2_with fail
  refine wp_loop_rounds 3 ?_
  rw [rounds_succ]
  go_wp2_with fail
  clear i0 c0 c1 c2 cl
  go_loopw [2, 19] (fun x k w3 => ∃ j : Nat, j ≤ s.n0 ∧ x = .int .u32 ((v / 256 ^ (j) : Nat) : Int) ∧ k = .int .u32 j ∧ PutAt w w3 t rb places n G (putN R s v (j)) g s) (fun _ k _ => s.n0 - (intOf k).toNat)
  case atStart => exact ⟨0, Nat.zero_le _, by simp, rfl, HP.out⟩
  case round =>
    clear HP
    obtain ⟨j, hj, rfl, rfl, hp⟩ := hrel
    have HPP := Lib.hid hp
    have d2 := hp.box.1
    have dl := hp.box.2.2
    obtain ⟨e0, el⟩ := hp.obj HO.out HN.out
    have hvl : v / 256 ^ (j) < 4294967296 := Nat.lt_of_le_of_lt (Nat.div_le_self _ _) hv
    clear hp
    by_cases hlt : j < s.n0
    · go_wp2_with fail
      refine (HPP.out.write (at32 s.a0 j) (v / 256 ^ (j)) (at32_lt _ _) hvl _ _ (by unfold at32; omega) rfl).mono ?_
      rintro e w2 ⟨rfl, hp2⟩
      have hS : (putN R s v (j)).wr (at32 s.a0 j) (v / 256 ^ (j) % 256) = putN R s v (j + 1) := by rw [← at_lo s j hlt]; rfl
      rw [hS] at hp2
      have HP2 := Lib.hid hp2
      have hD : v / 256 ^ (j) / 256 = v / 256 ^ (j + 1) := by rw [Nat.div_div_eq_div_mul, Nat.pow_succ]
      have HD := Lib.hid hD
      clear d2 dl e0 el hp2 hS hD
      generalize v / 256 ^ (j) = x0 at *
      go_wp2_with fail
      go_roundw
      case rel => exact ⟨j + 1, by omega, by rw [← HD.out]; go_num, by go_num, HP2.out⟩
      case measure => (simp [intOf]) <;> omega
    · obtain rfl : j = s.n0 := by omega
      clear hlt hj
      go_wp2_with fail
      rw [rounds_succ]
      have d3 := HPP.out.box.2.1
      clear d2 e0
      go_wp2_with fail
      go_loopw [2, 19] (fun x k w3 => ∃ j : Nat, j ≤ s.n1 ∧ x = .int .u32 ((v / 256 ^ (s.n0 + j) : Nat) : Int) ∧ k = .int .u32 j ∧ PutAt w w3 t rb places n G (putN R s v (s.n0 + j)) g s) (fun _ k _ => s.n1 - (intOf k).toNat)
      case atStart => exact ⟨0, Nat.zero_le _, rfl, rfl, HPP.out⟩
      case round =>
        clear HPP d3 dl el
        obtain ⟨j, hj, rfl, rfl, hp⟩ := hrel
        rename_i w3
        have HPP := Lib.hid hp
        have d2 := hp.box.2.1
        have dl := hp.box.2.2
        obtain ⟨e0, el⟩ := hp.obj HO.out HN.out
        have hvl : v / 256 ^ (s.n0 + j) < 4294967296 := Nat.lt_of_le_of_lt (Nat.div_le_self _ _) hv
        clear hp
        by_cases hlt : j < s.n1
        · go_wp2_with fail
          refine (HPP.out.write (at32 s.a1 j) (v / 256 ^ (s.n0 + j)) (at32_lt _ _) hvl _ _ (by unfold at32; omega) rfl).mono ?_
          rintro e w2 ⟨rfl, hp2⟩
          have hS : (putN R s v (s.n0 + j)).wr (at32 s.a1 j) (v / 256 ^ (s.n0 + j) % 256) = putN R s v (s.n0 + j + 1) := by rw [← at_hi s j]; rfl
          rw [hS] at hp2
          have HP2 := Lib.hid hp2
          have hD : v / 256 ^ (s.n0 + j) / 256 = v / 256 ^ (s.n0 + j + 1) := by rw [Nat.div_div_eq_div_mul, Nat.pow_succ]
          have HD := Lib.hid hD
          clear d2 dl e0 el hp2 hS hD
          generalize v / 256 ^ (s.n0 + j) = x0 at *
          go_wp2_with fail
          go_roundw
          case rel => exact ⟨j + 1, by omega, by rw [show s.n0 + (j + 1) = s.n0 + j + 1 from rfl, ← HD.out]; go_num, by go_num, HP2.out⟩
          case measure => (simp [intOf]) <;> omega
        · obtain rfl : j = s.n1 := by omega
          clear hlt hj
          go_wp2_with fail
          rw [rounds_succ]
          go_wp2_with fail
          go_end0
          obtain ⟨G', hK', M', -, -⟩ := HPP.out
          obtain ⟨hV', hM'⟩ := Vm.lift HO.out HN.out HHH.out hK' M'
          exact ⟨rfl, _, hV', hM'⟩
end
end Go.Proofs.Ytknokiadbkgmaaa
