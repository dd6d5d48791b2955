/- the document's memory: what it is in memory; Place, Byte. -/
import Derived.Test.YtfdeojefcfnogaaRamF
namespace Go.Proofs.Ytfdeojefcfnogaa
open Go.RowKit Go.MapKept
set_option linter.unusedVariables false

def byteCells (n : Nat) (f : Nat → Nat) : Array Value := Array.ofFn (n := n) fun i => .int .u8 (f i.val : Nat)
def boolCells (n : Nat) (f : Nat → Bool) : Array Value := Array.ofFn (n := n) fun i => .bool (f i.val)
theorem byteCells_at (n : Nat) (f : Nat → Nat) (i : Nat) (h : i < n) : (byteCells n f)[i]? = some (.int .u8 (f i : Nat)) := by unfold byteCells; rw [Array.getElem?_ofFn, dif_pos h]
theorem boolCells_at (n : Nat) (f : Nat → Bool) (i : Nat) (h : i < n) : (boolCells n f)[i]? = some (.bool (f i)) := by unfold boolCells; rw [Array.getElem?_ofFn, dif_pos h]
theorem byteCells_set (n : Nat) (f : Nat → Nat) (i v : Nat) (h : i < n) : (byteCells n f).setIfInBounds i (.int .u8 (v : Nat)) = byteCells n (fun k => if k = i then v else f k) := by
  apply Array.ext_getElem?
  intro j
  unfold byteCells
  rw [Array.getElem?_setIfInBounds, Array.getElem?_ofFn, Array.getElem?_ofFn]
  by_cases hj : j < n
  · rw [dif_pos hj, dif_pos hj]
    by_cases e : i = j
    · subst e; rw [if_pos rfl, if_pos (by simpa using h)]; simp
    · rw [if_neg e]; show _ = some (Value.int .u8 ((if j = i then v else f j : Nat) : Int)); rw [if_neg (fun x => e x.symm)]
  · rw [dif_neg hj, dif_neg hj]
    by_cases e : i = j
    · omega
    · rw [if_neg e]
theorem boolCells_set (n : Nat) (f : Nat → Bool) (i : Nat) (v : Bool) (h : i < n) : (boolCells n f).setIfInBounds i (.bool v) = boolCells n (fun k => if k = i then v else f k) := by
  apply Array.ext_getElem?
  intro j
  unfold boolCells
  rw [Array.getElem?_setIfInBounds, Array.getElem?_ofFn, Array.getElem?_ofFn]
  by_cases hj : j < n
  · rw [dif_pos hj, dif_pos hj]
    by_cases e : i = j
    · subst e; rw [if_pos rfl, if_pos (by simpa using h)]; simp
    · rw [if_neg e]; show _ = some (Value.bool (if j = i then v else f j)); rw [if_neg (fun x => e x.symm)]
  · rw [dif_neg hj, dif_neg hj]
    by_cases e : i = j
    · omega
    · rw [if_neg e]
theorem byteCells_zero (n : Nat) : fresh n (.int .u8 0) = byteCells n (fun _ => 0) := by
  apply Array.ext_getElem?
  intro j
  unfold byteCells fresh
  rw [Array.getElem?_replicate, Array.getElem?_ofFn]
  by_cases h : j < n <;> simp [h]
theorem boolCells_no (n : Nat) : fresh n (.bool false) = boolCells n (fun _ => false) := by
  apply Array.ext_getElem?
  intro j
  unfold boolCells fresh
  rw [Array.getElem?_replicate, Array.getElem?_ofFn]
  by_cases h : j < n <;> simp [h]

/-- The document's memory of R: its object in block b, its rows in g0, g1, g2, g3. -/
structure RefIn (w : World) (b g0 g1 g2 g3 : Nat) (R : RS) : Prop where
  obj : w.heap[b]? = some (.cells #[.slice (some ⟨g0, 0, none⟩) R.size R.size, .slice (some ⟨g1, 0, none⟩) R.pages R.pages, .slice (some ⟨g2, 0, none⟩) (R.pages * 64) (R.pages * 64), .slice (some ⟨g3, 0, none⟩) (R.pages * 64) (R.pages * 64), .bool R.closed] 53)
  r0 : w.heap[g0]? = some (.cells (byteCells R.size R.byte) 5)
  r1 : w.heap[g1]? = some (.cells (boolCells R.pages R.only) 4)
  r2 : w.heap[g2]? = some (.cells (boolCells (R.pages * 64) R.watched) 4)
  r3 : w.heap[g3]? = some (.cells (boolCells (R.pages * 64) (fun i => R.noted (i * 64))) 4)
  d1 : g1 ≠ g2
  d2 : g1 ≠ g3
  d3 : g2 ≠ g3
  ok : R.ok
def RefOwned (b g0 g1 g2 g3 k : Nat) : Prop := k = b ∨ k = g0 ∨ k = g1 ∨ k = g2 ∨ k = g3
def Ref (w : World) (b : Nat) (S : Nat → Prop) (R : RS) : Prop := ∃ g0 g1 g2 g3, RefIn w b g0 g1 g2 g3 R ∧ ∀ k, S k ↔ RefOwned b g0 g1 g2 g3 k

section
variable {w w' : World} {b g0 g1 g2 g3 : Nat} {R : RS}
theorem RefIn.e0 (H : RefIn w b g0 g1 g2 g3 R) : b ≠ g0 := by
  rintro rfl; have h := H.r0; rw [H.obj] at h; simp at h
theorem RefIn.e1 (H : RefIn w b g0 g1 g2 g3 R) : b ≠ g1 := by
  rintro rfl; have h := H.r1; rw [H.obj] at h; simp at h
theorem RefIn.e2 (H : RefIn w b g0 g1 g2 g3 R) : b ≠ g2 := by
  rintro rfl; have h := H.r2; rw [H.obj] at h; simp at h
theorem RefIn.e3 (H : RefIn w b g0 g1 g2 g3 R) : b ≠ g3 := by
  rintro rfl; have h := H.r3; rw [H.obj] at h; simp at h
theorem RefIn.f1 (H : RefIn w b g0 g1 g2 g3 R) : g0 ≠ g1 := by
  rintro rfl; have h := H.r1; rw [H.r0] at h; simp at h
theorem RefIn.f2 (H : RefIn w b g0 g1 g2 g3 R) : g0 ≠ g2 := by
  rintro rfl; have h := H.r2; rw [H.r0] at h; simp at h
theorem RefIn.f3 (H : RefIn w b g0 g1 g2 g3 R) : g0 ≠ g3 := by
  rintro rfl; have h := H.r3; rw [H.r0] at h; simp at h
theorem RefOwned.lt (H : RefIn w b g0 g1 g2 g3 R) {k : Nat} (h : RefOwned b g0 g1 g2 g3 k) : k < w.heap.size := by
  rcases h with rfl | rfl | rfl | rfl | rfl
  · exact heap_lt H.obj
  · exact heap_lt H.r0
  · exact heap_lt H.r1
  · exact heap_lt H.r2
  · exact heap_lt H.r3
theorem RefIn.of_heap (H : RefIn w b g0 g1 g2 g3 R) (h : ∀ k, RefOwned b g0 g1 g2 g3 k → w'.heap[k]? = w.heap[k]?) : RefIn w' b g0 g1 g2 g3 R :=
  { H with
    obj := by rw [h b (.inl rfl)]; exact H.obj
    r0 := by rw [h g0 (.inr (.inl rfl))]; exact H.r0
    r1 := by rw [h g1 (.inr (.inr (.inl rfl)))]; exact H.r1
    r2 := by rw [h g2 (.inr (.inr (.inr (.inl rfl))))]; exact H.r2
    r3 := by rw [h g3 (.inr (.inr (.inr (.inr rfl))))]; exact H.r3 }
theorem RefIn.drewN (H : RefIn w b g0 g1 g2 g3 R) (n : Nat) : RefIn (w.drewN n) b g0 g1 g2 g3 R := H.of_heap fun _ _ => rfl
theorem RefIn.facts (H : RefIn w b g0 g1 g2 g3 R) :
    w.cell? ⟨b, 0, none⟩ = some (.slice (some ⟨g0, 0, none⟩) R.size R.size) ∧ w.cell? ⟨b, 1, none⟩ = some (.slice (some ⟨g1, 0, none⟩) R.pages R.pages) ∧ w.cell? ⟨b, 2, none⟩ = some (.slice (some ⟨g2, 0, none⟩) (R.pages * 64) (R.pages * 64)) ∧
    w.cell? ⟨b, 3, none⟩ = some (.slice (some ⟨g3, 0, none⟩) (R.pages * 64) (R.pages * 64)) ∧ w.cell? ⟨b, 4, none⟩ = some (.bool R.closed) := by
  have h := H.obj
  refine ⟨?_, ?_, ?_, ?_, ?_⟩ <;> (rw [cell_at h]; rfl)
end
section
variable {w w' : World} {b : Nat} {S : Nat → Prop} {R : RS}
theorem Ref.lt (H : Ref w b S R) {k : Nat} (h : S k) : k < w.heap.size := by
  obtain ⟨g0, g1, g2, g3, I, hS⟩ := H
  exact RefOwned.lt I ((hS k).1 h)
theorem Ref.own (H : Ref w b S R) : S b := by
  obtain ⟨g0, g1, g2, g3, I, hS⟩ := H
  exact (hS b).2 (.inl rfl)
theorem Ref.isok (H : Ref w b S R) : R.ok := by
  obtain ⟨g0, g1, g2, g3, I, hS⟩ := H
  exact I.ok
theorem Ref.keeps {T : Nat → Prop} (H : Ref w b S R) (hk : Keeps T w w') (hn : ∀ k, S k → ¬ T k) : Ref w' b S R := by
  obtain ⟨g0, g1, g2, g3, I, hS⟩ := H
  exact ⟨g0, g1, g2, g3, I.of_heap fun k hk' => hk.block k (hk'.lt I) (hn k ((hS k).2 hk')), hS⟩
theorem Ref.below (H : Ref w b S R) (hb : Below w.heap.size w w') : Ref w' b S R := H.keeps (Keeps.ofBelow (S := fun _ => False) hb) fun _ _ h => h
theorem Ref.drewN (H : Ref w b S R) (n : Nat) : Ref (w.drewN n) b S R := H.keeps ((Keeps.refl (fun _ => False) _).drewN n) fun _ _ h => h
theorem Ref.alloc (H : Ref w b S R) (o : Obj) : Ref (w.alloc o) b S R := H.keeps ((Keeps.refl (fun _ => False) _).alloc o) fun _ _ h => h
end

theorem place_bit (a : Nat) (ha : a < 4294967296) : a &&& 4293918719 = if a / 1048576 % 2 = 1 then a - 1048576 else a := by
  have e : a &&& 4293918719 = 2 ^ 21 * (a / 2 ^ 21) + a % 2 ^ 20 := by
    refine Nat.eq_of_testBit_eq fun j => ?_
    rw [Nat.testBit_and, Nat.testBit_two_pow_mul_add _ (Nat.lt_of_lt_of_le (Nat.mod_lt _ (by decide)) (by decide)), Nat.testBit_mod_two_pow, Nat.testBit_div_two_pow]
    by_cases hj : j < 32
    · have h : ∀ j : Fin 32, (4293918719 : Nat).testBit j.val = !decide (j.val = 20) := by decide +kernel
      rw [h ⟨j, hj⟩]
      by_cases h1 : j < 21
      · rw [if_pos h1]
        by_cases h2 : j = 20
        · subst h2; simp
        · rw [decide_eq_false h2, decide_eq_true (show j < 20 by omega)]; simp
      · rw [if_neg h1, decide_eq_false (show ¬ j = 20 by omega), show j - 21 + 21 = j by omega]; simp
    · have hz : a.testBit j = false := Nat.testBit_lt_two_pow (Nat.lt_of_lt_of_le ha (Nat.pow_le_pow_right (n := 2) (by decide) (by omega) : 2 ^ 32 ≤ 2 ^ j))
      rw [hz, if_neg (by omega), show j - 21 + 21 = j by omega, hz]; simp
  rw [e]
  split <;> omega

set_option maxHeartbeats 1000000 in
theorem rplace_any {w : World} {b g0 g1 g2 g3 : Nat} {R : RS} (H : RefIn w b g0 g1 g2 g3 R) (a : Nat) (ha : a < 4294967296) :
    Calls Try.prog 38 #[.pointer (some ⟨b, 0, .none⟩), .int .u32 a] w fun e w' => e = .returned (.tuple #[.int .i64 (R.place a : Nat), .bool (decide (R.place a < R.size))]) ∧ ∃ n, w' = w.drewN n := by
  obtain ⟨k0, -, -, -, k4⟩ := H.facts
  have hb := place_bit a ha
  have hp : R.place a = if R.closed = true ∧ a / 1048576 % 2 = 1 then a - 1048576 else a := by
    unfold RS.place
    by_cases h1 : R.closed = true
    · rw [if_pos h1, hb]
      by_cases h2 : a / 1048576 % 2 = 1
      · rw [if_pos h2, if_pos ⟨h1, h2⟩]
      · rw [if_neg h2, if_neg (fun x => h2 x.2)]
    · rw [if_neg h1, if_neg (fun x => h1 x.1)]
  have HP := Lib.hid hp
  clear hp hb
  have hsz := RS.size_le H.ok
  cases hc : R.closed
  · rw [hc] at k4
    rw [hc] at HP
    clear hc
    go_enter Try.func38, Try.ntmps38
    go_wp2_with fail
    go_quiet (fail)
    go_wp2_with fail
    go_ret2
    refine ⟨?_, _, rfl⟩
    rw [HP.out, if_neg (by simp)]; simp
  · rw [hc] at k4
    rw [hc] at HP
    clear hc
    by_cases h2 : a / 1048576 % 2 = 1
    · have h3 : (((a : Int) / 1048576) % 2 == 1) = true := by rw [beq_iff_eq]; omega
      have h4 : 1048576 ≤ a := by omega
      go_enter Try.func38, Try.ntmps38
      go_wp2_with fail
      go_quiet (fail)
      go_wp2_with fail
      go_ret2
      refine ⟨?_, _, rfl⟩
      have e : R.place a = a - 1048576 := by rw [HP.out, if_pos (by simp [h2])]
      rw [e, show ((a - 1048576 : Nat) : Int) = (a : Int) - 1048576 by omega]
      have hd : decide ((a : Int) - 1048576 < (R.size : Int)) = decide (a - 1048576 < R.size) := by rw [decide_eq_decide]; omega
      rw [← hd]; rfl
    · have h3 : (((a : Int) / 1048576) % 2 == 1) = false := by rw [beq_eq_false_iff_ne]; omega
      go_enter Try.func38, Try.ntmps38
      go_wp2_with fail
      go_quiet (fail)
      go_wp2_with fail
      go_ret2
      refine ⟨?_, _, rfl⟩
      rw [HP.out, if_neg (fun x => h2 x.2)]; simp

section
variable {w w' : World} {b g0 g1 g2 g3 : Nat} {R : RS}
theorem RefIn.set0 (H : RefIn w b g0 g1 g2 g3 R) (n v : Nat) (hn : n < R.size) (hv : v < 256) : RefIn (w.setCell ⟨g0, n, none⟩ (.int .u8 v)) b g0 g1 g2 g3 { R with byte := fun i => if i = n then v else R.byte i } :=
  { H with
    obj := by rw [heap_set_ne _ _ _ _ _ H.e0]; exact H.obj
    r0 := by
      rw [heap_set_map, H.r0]
      show some (Obj.cells _ _ _) = _
      rw [byteCells_set _ _ _ _ hn]; rfl
    r1 := by rw [heap_set_ne _ _ _ _ _ H.f1.symm]; exact H.r1
    r2 := by rw [heap_set_ne _ _ _ _ _ H.f2.symm]; exact H.r2
    r3 := by rw [heap_set_ne _ _ _ _ _ H.f3.symm]; exact H.r3
    ok := ⟨H.ok.p1, H.ok.p2, fun i => by
      show (if i = n then v else R.byte i) < 256
      split
      · exact hv
      · exact H.ok.b i⟩ }
theorem RefIn.set1 (H : RefIn w b g0 g1 g2 g3 R) (n : Nat) (v : Bool) (hn : n < R.pages) : RefIn (w.setCell ⟨g1, n, none⟩ (.bool v)) b g0 g1 g2 g3 { R with only := fun i => if i = n then v else R.only i } :=
  { H with
    obj := by rw [heap_set_ne _ _ _ _ _ H.e1]; exact H.obj
    r0 := by rw [heap_set_ne _ _ _ _ _ H.f1]; exact H.r0
    r1 := by
      rw [heap_set_map, H.r1]
      show some (Obj.cells _ _ _) = _
      rw [boolCells_set _ _ _ _ hn]
    r2 := by rw [heap_set_ne _ _ _ _ _ H.d1.symm]; exact H.r2
    r3 := by rw [heap_set_ne _ _ _ _ _ H.d2.symm]; exact H.r3
    ok := ⟨H.ok.p1, H.ok.p2, H.ok.b⟩ }
theorem RefIn.set2 (H : RefIn w b g0 g1 g2 g3 R) (n : Nat) (v : Bool) (hn : n < R.pages * 64) : RefIn (w.setCell ⟨g2, n, none⟩ (.bool v)) b g0 g1 g2 g3 { R with watched := fun i => if i = n then v else R.watched i } :=
  { H with
    obj := by rw [heap_set_ne _ _ _ _ _ H.e2]; exact H.obj
    r0 := by rw [heap_set_ne _ _ _ _ _ H.f2]; exact H.r0
    r1 := by rw [heap_set_ne _ _ _ _ _ H.d1]; exact H.r1
    r2 := by
      rw [heap_set_map, H.r2]
      show some (Obj.cells _ _ _) = _
      rw [boolCells_set _ _ _ _ hn]
    r3 := by rw [heap_set_ne _ _ _ _ _ H.d3.symm]; exact H.r3
    ok := ⟨H.ok.p1, H.ok.p2, H.ok.b⟩ }
theorem RefIn.set3 (H : RefIn w b g0 g1 g2 g3 R) (n : Nat) (v : Bool) (hn : n < R.pages * 64) : RefIn (w.setCell ⟨g3, n, none⟩ (.bool v)) b g0 g1 g2 g3 { R with noted := fun i => if i = n * 64 then v else R.noted i } :=
  { H with
    obj := by rw [heap_set_ne _ _ _ _ _ H.e3]; exact H.obj
    r0 := by rw [heap_set_ne _ _ _ _ _ H.f3]; exact H.r0
    r1 := by rw [heap_set_ne _ _ _ _ _ H.d2]; exact H.r1
    r2 := by rw [heap_set_ne _ _ _ _ _ H.d3]; exact H.r2
    r3 := by
      rw [heap_set_map, H.r3]
      show some (Obj.cells _ _ _) = _
      rw [boolCells_set _ _ _ _ hn]
      congr 2
      unfold boolCells
      congr 1
      funext i
      show Value.bool (if i.val = n then v else R.noted (i.val * 64)) = Value.bool (if i.val * 64 = n * 64 then v else R.noted (i.val * 64))
      by_cases e : i.val = n
      · rw [if_pos e, if_pos (by rw [e])]
      · rw [if_neg e, if_neg (by omega)]
    ok := ⟨H.ok.p1, H.ok.p2, H.ok.b⟩ }
end

set_option maxHeartbeats 1000000 in
theorem rbyte_any {w : World} {b g0 g1 g2 g3 : Nat} {R : RS} (H : RefIn w b g0 g1 g2 g3 R) (a : Nat) (ha : a < 4294967296) :
    Calls Try.prog 33 #[.pointer (some ⟨b, 0, .none⟩), .int .u32 a] w fun e w' => e = .returned (.int .u8 (R.get a : Nat)) ∧ ∃ n, w' = w.drewN n := by
  obtain ⟨k0, -⟩ := H.facts
  have hsz := RS.size_le H.ok
  have HP := Lib.hid (rplace_any H a ha)
  have HG := Lib.hid (show R.get a = if R.place a < R.size then R.byte (R.place a) else 255 from rfl)
  generalize R.place a = p at *
  by_cases hs : p < R.size
  · have hd : decide (p < R.size) = true := decide_eq_true hs
    have hc : w.cell? ⟨g0, p, .none⟩ = some (.int .u8 (R.byte p : Nat)) := by rw [cell_at H.r0, byteCells_at _ _ _ hs]
    have HD := Lib.hid hd
    clear hd
    go_enter Try.func33, Try.ntmps33
    go_wp2_with fail
    refine HP.out.mono ?_
    rintro e w1 ⟨rfl, n, rfl⟩
    rw [HD.out]
    go_wp2_with fail
    go_ret
    refine ⟨?_, n, rfl⟩
    rw [HG.out, if_pos hs]; rfl
  · have HD := Lib.hid (decide_eq_false hs)
    go_enter Try.func33, Try.ntmps33
    go_wp2_with fail
    refine HP.out.mono ?_
    rintro e w1 ⟨rfl, n, rfl⟩
    rw [HD.out]
    go_wp2_with fail
    go_ret
    refine ⟨?_, n, rfl⟩
    rw [HG.out, if_neg hs]; rfl

set_option maxHeartbeats 2000000 in
theorem rput_lay {w : World} {b g0 g1 g2 g3 : Nat} {R : RS} (H : RefIn w b g0 g1 g2 g3 R) (a v : Nat) (ha : a < 4294967296) (hv : v < 256) (all : Bool) (hs : R.place a < R.size) (hall : all = true ∨ R.only (R.place a / 4096) = false) :
    Calls Try.prog 37 #[.pointer (some ⟨b, 0, .none⟩), .int .u32 a, .int .u8 v, .bool all] w fun e w' => e = .returned (.tuple #[]) ∧ RefIn w' b g0 g1 g2 g3 (R.lay (R.place a) v) ∧ Keeps (RefOwned b g0 g1 g2 g3) w w' := by
  obtain ⟨k0, k1, k2, k3, -⟩ := H.facts
  have hsz := RS.size_le H.ok
  have hpl := R.place_le a
  have HP := Lib.hid (rplace_any H a ha)
  generalize R.place a = p at *
  have hpg : p / 4096 < R.pages := by unfold RS.size at hs; omega
  have hgr : p / 64 < R.pages * 64 := by unfold RS.size at hs; omega
  have h256 := H.ok.p2
  have HD := Lib.hid (decide_eq_true hs)
  have hc1 : w.cell? ⟨g1, p / 4096, .none⟩ = some (.bool (R.only (p / 4096))) := by rw [cell_at H.r1, boolCells_at _ _ _ hpg]
  have hc0 : w.cell? ⟨g0, p, .none⟩ = some (.int .u8 (R.byte p : Nat)) := by rw [cell_at H.r0, byteCells_at _ _ _ hs]
  have f0 : ∀ k, w.frozen? ⟨g0, k, .none⟩ = false := fun k => free_at H.r0
  have W1 := fun n => (H.drewN n).set0 p v hs hv
  have HW1 := Lib.hid W1
  clear W1
  have ho : (R.only (p / 4096) && !all) = false := by rcases hall with h | h <;> simp [h]
  have hq0 : (p : Int) < (R.size : Int) := by omega
  have hq1 : ((p : Int) / 4096) < (R.pages : Int) := by omega
  cases hall2 : R.only (p / 4096)
  all_goals
    rw [hall2] at hc1 ho
    have HA := Lib.hid hall2
    clear hall2
    go_enter Try.func37, Try.ntmps37
    go_wp2_with fail
    refine HP.out.mono ?_
    rintro e w1 ⟨rfl, n, rfl⟩
    rw [HD.out]
    go_upto_region 3 with (fail)
    have I1 := HW1.out n
    have K1 : Keeps (RefOwned b g0 g1 g2 g3) w ((w.drewN n).setCell ⟨g0, p, .none⟩ (.int .u8 v)) := ((Keeps.refl _ w).drewN n).setCell (.inl (.inr (.inl rfl))) _
    generalize (w.drewN n).setCell ⟨g0, p, .none⟩ (.int .u8 v) = W1 at *
    clear hc0 hc1 f0 k0 k1 k2 k3
    obtain ⟨-, -, k2, k3, -⟩ := I1.facts
    have hc2 : W1.cell? ⟨g2, p / 64, .none⟩ = some (.bool (R.watched (p / 64))) := by rw [cell_at I1.r2]; exact boolCells_at _ R.watched _ hgr
    have f2 : ∀ k, W1.frozen? ⟨g2, k, .none⟩ = false := fun k => free_at I1.r2
    have hq2 : ((p : Int) / 64) < ((R.pages * 64 : Nat) : Int) := by omega
    cases hw : R.watched (p / 64)
    · rw [hw] at hc2
      have HW := Lib.hid hw
      clear hw
      go_wp2_with fail
      go_end0
      exact ⟨rfl, by rw [RS.lay_quiet _ _ _ HW.out]; exact I1, K1⟩
    · rw [hw] at hc2
      have HW := Lib.hid hw
      clear hw
      have I2 := I1.set2 (p / 64) false hgr
      have K2 : Keeps (RefOwned b g0 g1 g2 g3) w (W1.setCell ⟨g2, p / 64, .none⟩ (.bool false)) := K1.setCell (.inl (.inr (.inr (.inr (.inl rfl))))) _
      go_upto_region 5 with (fail)
      generalize W1.setCell ⟨g2, p / 64, .none⟩ (.bool false) = W2 at *
      clear hc2 f2 k2 k3
      obtain ⟨-, -, -, k3, -⟩ := I2.facts
      have hc3 : W2.cell? ⟨g3, p / 64, .none⟩ = some (.bool (R.noted (p / 64 * 64))) := by rw [cell_at I2.r3]; exact boolCells_at _ (fun i => R.noted (i * 64)) _ hgr
      have f3 : ∀ k, W2.frozen? ⟨g3, k, .none⟩ = false := fun k => free_at I2.r3
      have I3 := I2.set3 (p / 64) true hgr
      have K3 : Keeps (RefOwned b g0 g1 g2 g3) w (W2.setCell ⟨g3, p / 64, .none⟩ (.bool true)) := K2.setCell (.inl (.inr (.inr (.inr (.inr rfl))))) _
      go_wp2_with fail
      go_end0
      exact ⟨rfl, by rw [RS.lay_loud _ _ _ HW.out]; exact I3, K3⟩

set_option maxHeartbeats 2000000 in
theorem rput_no {w : World} {b g0 g1 g2 g3 : Nat} {R : RS} (H : RefIn w b g0 g1 g2 g3 R) (a v : Nat) (ha : a < 4294967296) (all : Bool) (hs : ¬ R.place a < R.size ∨ (all = false ∧ R.place a < R.size ∧ R.only (R.place a / 4096) = true)) :
    Calls Try.prog 37 #[.pointer (some ⟨b, 0, .none⟩), .int .u32 a, .int .u8 v, .bool all] w fun e w' => e = .returned (.tuple #[]) ∧ ∃ n, w' = w.drewN n := by
  obtain ⟨k0, k1, k2, k3, -⟩ := H.facts
  have hsz := RS.size_le H.ok
  have hpl := R.place_le a
  have HP := Lib.hid (rplace_any H a ha)
  generalize R.place a = p at *
  rcases hs with hs | ⟨rfl, hs, ho⟩
  · have HD := Lib.hid (decide_eq_false hs)
    go_enter Try.func37, Try.ntmps37
    go_wp2_with fail
    refine HP.out.mono ?_
    rintro e w1 ⟨rfl, n, rfl⟩
    rw [HD.out]
    go_wp2_with fail
    go_returns
    exact ⟨rfl, n, rfl⟩
  · have HD := Lib.hid (decide_eq_true hs)
    have hpg : p / 4096 < R.pages := by unfold RS.size at hs; omega
    have h256 := H.ok.p2
    have hc1 : w.cell? ⟨g1, p / 4096, .none⟩ = some (.bool true) := by rw [cell_at H.r1, boolCells_at _ _ _ hpg, ho]
    have hq1 : ((p : Int) / 4096) < (R.pages : Int) := by omega
    clear ho
    go_enter Try.func37, Try.ntmps37
    go_wp2_with fail
    refine HP.out.mono ?_
    rintro e w1 ⟨rfl, n, rfl⟩
    rw [HD.out]
    go_wp2_with fail
    go_returns
    exact ⟨rfl, n, rfl⟩
/-- What the document's Put lays. -/
def RS.rput (R : RS) (a v : Nat) (all : Bool) : RS := if all then R.put a v else R.wr a v
theorem rput_any {w : World} {b : Nat} {S : Nat → Prop} {R : RS} (H : Ref w b S R) (a v : Nat) (ha : a < 4294967296) (hv : v < 256) (all : Bool) (x y : Int) (hx : x = (a : Int)) (hy : y = (v : Int)) :
    Calls Try.prog 37 #[.pointer (some ⟨b, 0, .none⟩), .int .u32 x, .int .u8 y, .bool all] w fun e w' => e = .returned (.tuple #[]) ∧ Ref w' b S (R.rput a v all) ∧ Keeps S w w' := by
  subst hx hy
  obtain ⟨g0, g1, g2, g3, I, hS⟩ := H
  by_cases h : R.place a < R.size ∧ (all = true ∨ R.only (R.place a / 4096) = false)
  · have e : R.rput a v all = R.lay (R.place a) v := by
      unfold RS.rput RS.put RS.wr
      cases all
      · rw [if_neg (by simp), if_pos ⟨h.1, by simpa using h.2⟩]
      · rw [if_pos rfl, if_pos h.1]
    rw [e]
    refine (rput_lay I a v ha hv all h.1 h.2).mono ?_
    rintro r w' ⟨rfl, I', K⟩
    exact ⟨rfl, ⟨g0, g1, g2, g3, I', hS⟩, K.mono fun k _ hk => (hS k).2 hk⟩
  · have e : R.rput a v all = R := by
      unfold RS.rput RS.put RS.wr
      cases all
      · rw [if_neg (by simp), if_neg (fun x => h ⟨x.1, .inr x.2⟩)]
      · rw [if_pos rfl, if_neg (fun x => h ⟨x, .inl rfl⟩)]
    rw [e]
    refine (rput_no I a v ha all ?_).mono ?_
    · by_cases h1 : R.place a < R.size
      · right
        cases all
        · refine ⟨rfl, h1, ?_⟩
          cases ho : R.only (R.place a / 4096)
          · exact absurd ⟨h1, .inr ho⟩ h
          · rfl
        · exact absurd ⟨h1, .inl rfl⟩ h
      · exact .inl h1
    · rintro r w' ⟨rfl, n, rfl⟩
      exact ⟨rfl, ⟨g0, g1, g2, g3, I.drewN n, hS⟩, (Keeps.refl _ _).drewN n⟩
theorem rbyte_anyv {w : World} {b : Nat} {S : Nat → Prop} {R : RS} (H : Ref w b S R) (a : Nat) (x : Int) (hx : x = (a : Int)) (ha : a < 4294967296) :
    Calls Try.prog 33 #[.pointer (some ⟨b, 0, .none⟩), .int .u32 x] w fun e w' => e = .returned (.int .u8 (R.get a : Nat)) ∧ ∃ n, w' = w.drewN n := by
  obtain ⟨g0, g1, g2, g3, I, hS⟩ := H
  rw [hx]; exact rbyte_any I a ha
end Go.Proofs.Ytfdeojefcfnogaa
