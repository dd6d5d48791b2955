/- ram's law RamPlays: the document's memory as an object; loads of bytes; what is noted. -/
import Derived.Test.YtfdeojefcfnogaaRamN
import Derived.Test.YtfdeojefcfnogaaRefC
import Derived.Deep.RegionHeld3
namespace Go.Proofs.Ytfdeojefcfnogaa
open Go.RowKit Go.MapKept
set_option linter.unusedVariables false

section
variable {w : World} {b : Nat} {S : Nat → Prop} {R : RS}
set_option maxHeartbeats 2000000 in
theorem rwatch_any (H : Ref w b S R) (a : Nat) (ha : a < 4294967296) :
    Calls Try.prog 31 #[.pointer (some ⟨b, 0, .none⟩), .int .u32 a] w fun e w' => e = .returned (.tuple #[]) ∧ Ref w' b S (R.watch a) ∧ Keeps S w w' := by
  obtain ⟨g0, g1, g2, g3, I, hS⟩ := H
  obtain ⟨k0, k1, k2, k3, -⟩ := I.facts
  have hsz := RS.size_le I.ok
  have h256 := I.ok.p2
  have HP := Lib.hid (rplace_any I a ha)
  have HG := Lib.hid (show R.watch a = if R.place a < R.size then { R with watched := fun g => if g = R.place a / 64 then true else R.watched g } else R from rfl)
  generalize R.place a = p at *
  by_cases hs : p < R.size
  · have hp64 : p / 64 < R.pages * 64 := by unfold RS.size at hs; omega
    have HD := Lib.hid (decide_eq_true hs)
    have hc2 : w.cell? ⟨g2, p / 64, .none⟩ = some (.bool (R.watched (p / 64))) := by rw [cell_at I.r2, boolCells_at _ _ _ hp64]
    have f2 : ∀ k, w.frozen? ⟨g2, k, .none⟩ = false := fun k => free_at I.r2
    have hq2 : ((p : Int) / 64) < ((R.pages * 64 : Nat) : Int) := by omega
    have HI := Lib.hid (fun n => (I.drewN n).set2 (p / 64) true hp64)
    have HSg := Lib.hid ((hS g2).2 (.inr (.inr (.inr (.inl rfl)))))
    have hS2 := Lib.hid hS
    clear I hS
    go_enter Try.func31, Try.ntmps31
    go_wp2_with fail
    refine HP.out.mono ?_
    rintro e w1 ⟨rfl, n, rfl⟩
    rw [HD.out]
    go_wp2_with fail
    go_end0
    exact ⟨rfl, ⟨g0, g1, g2, g3, by rw [HG.out, if_pos hs]; exact HI.out n, hS2.out⟩, ((Keeps.refl S w).drewN n).setCell (.inl HSg.out) _⟩
  · have HD := Lib.hid (decide_eq_false hs)
    have HI := Lib.hid (And.intro I hS)
    clear I hS
    go_enter Try.func31, Try.ntmps31
    go_wp2_with fail
    refine HP.out.mono ?_
    rintro e w1 ⟨rfl, n, rfl⟩
    rw [HD.out]
    go_wp2_with fail
    go_end0
    exact ⟨rfl, ⟨g0, g1, g2, g3, by rw [HG.out, if_neg hs]; exact HI.out.1.drewN n, HI.out.2⟩, (Keeps.refl S w).drewN n⟩
set_option maxHeartbeats 2000000 in
theorem rwatched_any (H : Ref w b S R) (a : Nat) (ha : a < 4294967296) :
    Calls Try.prog 34 #[.pointer (some ⟨b, 0, .none⟩), .int .u32 a] w fun e w' => e = .returned (.bool (R.watches a)) ∧ ∃ n, w' = w.drewN n := by
  obtain ⟨g0, g1, g2, g3, I, hS⟩ := H
  obtain ⟨k0, k1, k2, k3, -⟩ := I.facts
  have hsz := RS.size_le I.ok
  have h256 := I.ok.p2
  have HP := Lib.hid (rplace_any I a ha)
  have HG := Lib.hid (show R.watches a = (decide (R.place a < R.size) && R.watched (R.place a / 64)) from rfl)
  generalize R.place a = p at *
  by_cases hs : p < R.size
  · have hp64 : p / 64 < R.pages * 64 := by unfold RS.size at hs; omega
    have HD := Lib.hid (decide_eq_true hs)
    have hc2 : w.cell? ⟨g2, p / 64, .none⟩ = some (.bool (R.watched (p / 64))) := by rw [cell_at I.r2, boolCells_at _ _ _ hp64]
    have hq2 : ((p : Int) / 64) < ((R.pages * 64 : Nat) : Int) := by omega
    clear I hS
    go_enter Try.func34, Try.ntmps34
    go_wp2_with fail
    refine HP.out.mono ?_
    rintro e w1 ⟨rfl, n, rfl⟩
    rw [HD.out]
    go_wp2_with fail
    go_ret
    exact ⟨by rw [HG.out, HD.out, Bool.true_and]; rfl, n, rfl⟩
  · have HD := Lib.hid (decide_eq_false hs)
    clear I hS
    go_enter Try.func34, Try.ntmps34
    go_wp2_with fail
    refine HP.out.mono ?_
    rintro e w1 ⟨rfl, n, rfl⟩
    rw [HD.out]
    go_wp2_with fail
    go_ret
    exact ⟨by rw [HG.out, HD.out, Bool.false_and]; rfl, n, rfl⟩
theorem dump_no (a n : Int) (h : n < 1) : Calls Try.prog 23 #[.pointer (some ⟨b, 0, .none⟩), .int .u32 a, .int .i64 n] w fun e w' => e = .returned (.slice none 0 0) ∧ w = w' := by
  go_enter Try.func23, Try.ntmps23
  go_wp2_with fail
  go_ret
  exact ⟨rfl, rfl⟩
end
/-- The document's memory. -/
def oDoc (b : Nat) (R : RS) : Ob := ⟨fun w H => Ref w b H R,
  fun {w w' H} h g => by
    obtain ⟨g0, g1, g2, g3, h, e⟩ := h
    exact ⟨g0, g1, g2, g3, h.of_heap fun k hk => g k ((e k).2 hk), e⟩, fun h k hk => h.lt hk⟩
section
variable {b : Nat} {R : RS}
theorem d_write (a v : Nat) (ha : a < 4294967296) (hv : v < 4294967296) (s : Nat) (hs : s = 1 ∨ s = 2 ∨ s = 4) : Acts 29 #[.pointer (some ⟨b, 0, .none⟩), .int .u32 a, .int .i64 (s : Nat), .int .u32 v] (oDoc b R) (.int .i64 0) (oDoc b (R.write a v s)) := by
  rintro w A H
  refine (rwrite_any H a v ha hv s hs).mono ?_
  rintro e w1 ⟨rfl, H1, K⟩
  exact ⟨rfl, A, H1, K, fun k hk => .inl hk⟩
theorem d_read (a : Nat) (ha : a < 4294967296) (s : Nat) (hs : s = 1 ∨ s = 2 ∨ s = 4) : Acts 28 #[.pointer (some ⟨b, 0, .none⟩), .int .u32 a, .int .i64 (s : Nat)] (oDoc b R) (.tuple #[.int .u32 (R.read a s : Nat), .int .i64 0]) (oDoc b R) := by
  rintro w A H
  refine (rread_any H a ha s hs).mono ?_
  rintro e w1 ⟨rfl, n, rfl⟩
  exact ⟨rfl, A, H.drewN n, Moves.drewN _ _ _⟩
theorem d_watch (a : Nat) (ha : a < 4294967296) : Acts 31 #[.pointer (some ⟨b, 0, .none⟩), .int .u32 a] (oDoc b R) (.tuple #[]) (oDoc b (R.watch a)) := by
  rintro w A H
  refine (rwatch_any H a ha).mono ?_
  rintro e w1 ⟨rfl, H1, K⟩
  exact ⟨rfl, A, H1, K, fun k hk => .inl hk⟩
theorem d_watched (a : Nat) (ha : a < 4294967296) : Acts 34 #[.pointer (some ⟨b, 0, .none⟩), .int .u32 a] (oDoc b R) (.bool (R.watches a)) (oDoc b R) := by
  rintro w A H
  refine (rwatched_any H a ha).mono ?_
  rintro e w1 ⟨rfl, n, rfl⟩
  exact ⟨rfl, A, H.drewN n, Moves.drewN _ _ _⟩
theorem d_rom (n : Int) (x : Bool) : Acts 30 #[.pointer (some ⟨b, 0, .none⟩), .int .i64 n, .bool x] (oDoc b R) (.int .i64 (romErr R n)) (oDoc b (R.romAt n x)) := by
  rintro w A H
  refine (rrom_any H n x).mono ?_
  rintro e w1 ⟨rfl, H1, K⟩
  exact ⟨rfl, A, H1, K, fun k hk => .inl hk⟩
theorem d_put (a v : Nat) (ha : a < 4294967296) (hv : v < 256) (x y : Int) (hx : x = (a : Int)) (hy : y = (v : Int)) : Acts 37 #[.pointer (some ⟨b, 0, .none⟩), .int .u32 x, .int .u8 y, .bool true] (oDoc b R) (.tuple #[]) (oDoc b (R.put a v)) := by
  rintro w A H
  refine (rput_any H a v ha hv true x y hx hy).mono ?_
  rintro e w1 ⟨rfl, H1, K⟩
  exact ⟨rfl, A, H1, K, fun k hk => .inl hk⟩
theorem m_put (a v : Nat) (ha : a < 4294967296) (hv : v < 256) (x y : Int) (hx : x = (a : Int)) (hy : y = (v : Int)) : Acts 25 #[.pointer (some ⟨b, 0, .none⟩), .int .u32 x, .int .u8 y] (oMem b R) (.tuple #[]) (oMem b (R.put a v)) := by
  rintro w A H
  refine (put_anyv H a v x y hx hy ha hv).mono ?_
  rintro e w1 ⟨rfl, A', H1, M⟩
  exact ⟨rfl, A', H1, M⟩
theorem d_byte (a : Nat) (ha : a < 4294967296) (x : Int) (hx : x = (a : Int)) : Acts 33 #[.pointer (some ⟨b, 0, .none⟩), .int .u32 x] (oDoc b R) (.int .u8 (R.get a : Nat)) (oDoc b R) := by
  rintro w A H
  refine (rbyte_anyv H a x hx ha).mono ?_
  rintro e w1 ⟨rfl, n, rfl⟩
  exact ⟨rfl, A, H.drewN n, Moves.drewN _ _ _⟩
end
/-- A slice of bytes that came in. -/
def BytesIn (w : World) (a : Option Addr) (n : Nat) (f : Nat → Nat) : Prop := n = 0 ∨ ∃ b off, a = some ⟨b, off, none⟩ ∧ b < w.heap.size ∧ ∀ i, i < n → w.cell? ⟨b, off + i, none⟩ = some (.int .u8 (f i : Nat)) ∧ f i < 256
def RS.loads (R : RS) (a : Nat) (f : Nat → Nat) : Nat → RS
  | 0 => R
  | k + 1 => (R.loads a f k).put (at32 a k) (f k)
theorem set_same {α : Type _} {l : List α} {i : Nat} {x : α} (h : l[i]? = some x) : l.set i x = l := by
  refine List.ext_getElem? fun j => ?_
  have hi := (List.getElem?_eq_some_iff.1 h).1
  rw [List.getElem?_set]
  by_cases e : i = j
  · subst e; rw [if_pos rfl, if_pos hi, h]
  · rw [if_neg e]
section
variable {w0 w : World} {os : List Ob} {b : Nat} {R : RS}
set_option maxHeartbeats 2000000 in
theorem m_load (T : Hp w0 (fun _ => False) w os) (i : Nat) (hi : os[i]? = some (oMem b R)) (a : Nat) (ha : a < 4294967296) (da : Option Addr) (n dc : Nat) (f : Nat → Nat) (D : BytesIn w0 da n f) (hn : n ≤ 9223372036854775807) :
    Calls Try.prog 22 #[.pointer (some ⟨b, 0, .none⟩), .int .u32 a, .slice da n dc] w fun e w' => e = .returned (.tuple #[]) ∧ Hp w0 (fun _ => False) w' (os.set i (oMem b (R.loads a f n))) := by
  have HT := Lib.hid T
  have HI := Lib.hid hi
  have HLT := Lib.hid (List.getElem?_eq_some_iff.1 hi).1
  clear T hi
  go_enter Try.func22, Try.ntmps22
  go_wp2_with fail
  go_loopw [12] (fun j wc => ∃ k : Nat, k ≤ n ∧ j = .int .i64 k ∧ Hp w0 (fun _ => False) wc (os.set i (oMem b (R.loads a f k)))) (fun j _ => n - (intOf j).toNat)
  case atStart => exact ⟨0, by omega, rfl, by rw [show os.set i (oMem b (R.loads a f 0)) = os from set_same HI.out]; exact HT.out⟩
  case round =>
    rename_i wr
    obtain ⟨k, hk, rfl, T⟩ := hrel
    have HB := Lib.hid T.below
    have HT2 := Lib.hid T
    clear T
    by_cases hlt : k < n
    · obtain ⟨b0, off, rfl, hb0, hz⟩ : ∃ b0 off, da = some ⟨b0, off, none⟩ ∧ b0 < w0.heap.size ∧ ∀ i, i < n → w0.cell? ⟨b0, off + i, none⟩ = some (.int .u8 (f i : Nat)) ∧ f i < 256 := by
        rcases D with h | h
        · omega
        · exact h
      have p1 : (0 : Int) ≤ (k : Int) := by omega
      have p2 : (k : Int) < n := by omega
      have c0 := (HB.out.cell hb0).trans (hz k hlt).1
      have HF := Lib.hid (hz k hlt).2
      clear hz
      generalize hfk : f k = y at *
      have HFK := Lib.hid hfk
      clear hfk
      go_wp2_with fail
      refine (HT2.out.act i (by rw [List.getElem?_set_self HLT.out]) (m_put (at32 a k) y (at32_lt a k) HF.out _ _ (by unfold at32; omega) rfl)).mono ?_
      rintro e w2 ⟨rfl, T2⟩
      rw [List.set_set] at T2
      have HT3 := Lib.hid (show Hp w0 (fun _ => False) w2 (os.set i (oMem b (R.loads a f (k + 1)))) from by
        show Hp w0 (fun _ => False) w2 (os.set i (oMem b ((R.loads a f k).put (at32 a k) (f k))))
        rw [HFK.out]; exact T2)
      clear T2 c0
      go_wp2_with fail
      go_roundw
      case rel => exact ⟨k + 1, by omega, by go_num, HT3.out⟩
      case measure => (simp [intOf]) <;> omega
    · obtain rfl : k = n := by omega
      have p2 : ¬ ((k : Int) < k) := by omega
      go_wp2_with fail
      go_end0
      exact ⟨rfl, HT2.out⟩
set_option maxHeartbeats 2000000 in
theorem d_load (T : Hp w0 (fun _ => False) w os) (i : Nat) (hi : os[i]? = some (oDoc b R)) (a : Nat) (ha : a < 4294967296) (da : Option Addr) (n dc : Nat) (f : Nat → Nat) (D : BytesIn w0 da n f) (hn : n ≤ 9223372036854775807) :
    Calls Try.prog 32 #[.pointer (some ⟨b, 0, .none⟩), .int .u32 a, .slice da n dc] w fun e w' => e = .returned (.tuple #[]) ∧ Hp w0 (fun _ => False) w' (os.set i (oDoc b (R.loads a f n))) := by
  have HT := Lib.hid T
  have HI := Lib.hid hi
  have HLT := Lib.hid (List.getElem?_eq_some_iff.1 hi).1
  clear T hi
  go_enter Try.func32, Try.ntmps32
  go_wp2_with fail
  go_loopw [6] (fun j wc => ∃ k : Nat, k ≤ n ∧ j = .int .i64 k ∧ Hp w0 (fun _ => False) wc (os.set i (oDoc b (R.loads a f k)))) (fun j _ => n - (intOf j).toNat)
  case atStart => exact ⟨0, by omega, rfl, by rw [show os.set i (oDoc b (R.loads a f 0)) = os from set_same HI.out]; exact HT.out⟩
  case round =>
    rename_i wr
    obtain ⟨k, hk, rfl, T⟩ := hrel
    have HB := Lib.hid T.below
    have HT2 := Lib.hid T
    clear T
    by_cases hlt : k < n
    · obtain ⟨b0, off, rfl, hb0, hz⟩ : ∃ b0 off, da = some ⟨b0, off, none⟩ ∧ b0 < w0.heap.size ∧ ∀ i, i < n → w0.cell? ⟨b0, off + i, none⟩ = some (.int .u8 (f i : Nat)) ∧ f i < 256 := by
        rcases D with h | h
        · omega
        · exact h
      have p1 : (0 : Int) ≤ (k : Int) := by omega
      have p2 : (k : Int) < n := by omega
      have c0 := (HB.out.cell hb0).trans (hz k hlt).1
      have HF := Lib.hid (hz k hlt).2
      clear hz
      generalize hfk : f k = y at *
      have HFK := Lib.hid hfk
      clear hfk
      go_wp2_with fail
      refine (HT2.out.act i (by rw [List.getElem?_set_self HLT.out]) (d_put (at32 a k) y (at32_lt a k) HF.out _ _ (by unfold at32; omega) rfl)).mono ?_
      rintro e w2 ⟨rfl, T2⟩
      rw [List.set_set] at T2
      have HT3 := Lib.hid (show Hp w0 (fun _ => False) w2 (os.set i (oDoc b (R.loads a f (k + 1)))) from by
        show Hp w0 (fun _ => False) w2 (os.set i (oDoc b ((R.loads a f k).put (at32 a k) (f k))))
        rw [HFK.out]; exact T2)
      clear T2 c0
      go_wp2_with fail
      go_roundw
      case rel => exact ⟨k + 1, by omega, by go_num, HT3.out⟩
      case measure => (simp [intOf]) <;> omega
    · obtain rfl : k = n := by omega
      have p2 : ¬ ((k : Int) < k) := by omega
      go_wp2_with fail
      go_end0
      exact ⟨rfl, HT2.out⟩
end
/-- What is noted are groups of the memory's. -/
def Nd (R : RS) : Prop := ∀ x, R.noted x = true → x % 64 = 0 ∧ x < R.size
def RS.clr (R : RS) (k : Nat) : RS := { R with noted := fun x => R.noted x && decide (k * 64 ≤ x) }
theorem clr_zero (R : RS) : R.clr 0 = R := by
  unfold RS.clr
  congr 1
  funext x
  simp
theorem clr_step {R : RS} (h : Nd R) (k : Nat) (hk : R.noted (k * 64) = true) : ({ R.clr k with noted := fun i => if i = k * 64 then false else (R.clr k).noted i } : RS) = R.clr (k + 1) := by
  refine congrArg (fun f : Nat → Bool => ({ R with noted := f } : RS)) (funext fun x => ?_)
  show (if x = k * 64 then false else (R.noted x && decide (k * 64 ≤ x))) = (R.noted x && decide ((k + 1) * 64 ≤ x))
  cases hx : R.noted x
  · simp
  · have := (h x hx).1
    by_cases e : x = k * 64
    · rw [if_pos e]; simp; omega
    · rw [if_neg e]; simp; omega
theorem clr_skip {R : RS} (h : Nd R) (k : Nat) (hk : R.noted (k * 64) = false) : R.clr k = R.clr (k + 1) := by
  unfold RS.clr
  congr 1
  funext x
  cases hx : R.noted x
  · simp
  · have := (h x hx).1
    have e : x ≠ k * 64 := by rintro rfl; rw [hk] at hx; cases hx
    simp; omega
theorem clr_done {R : RS} (h : Nd R) : R.clr (R.pages * 64) = R.told := by
  unfold RS.clr RS.told
  congr 1
  funext x
  cases hx : R.noted x
  · rfl
  · have := (h x hx).2
    unfold RS.size at this
    simp; omega
section
variable {w0 w : World} {A0 : Nat → Prop} {os : List Ob} {b : Nat} {R : RS}
/-- A mark is struck. -/
theorem Hp.mark (T : Hp w0 A0 w os) (i : Nat) (hi : os[i]? = some (oDoc b R)) : ∃ g3, w.cell? ⟨b, 3, none⟩ = some (.slice (some ⟨g3, 0, none⟩) (R.pages * 64) (R.pages * 64)) ∧ ∀ k, k < R.pages * 64 → w.cell? ⟨g3, k, none⟩ = some (.bool (R.noted (k * 64))) ∧ w.frozen? ⟨g3, k, none⟩ = false ∧ g3 < w.heap.size ∧
    Hp w0 A0 (w.setCell ⟨g3, k, none⟩ (.bool false)) (os.set i (oDoc b { R with noted := fun i => if i = k * 64 then false else R.noted i })) := by
  obtain ⟨A, ⟨g0, g1, g2, g3, I, hS⟩, g⟩ := T.turn i hi
  refine ⟨g3, I.facts.2.2.2.1, fun k hk => ⟨by rw [cell_at I.r3]; exact boolCells_at _ (fun i => R.noted (i * 64)) _ hk, free_at I.r3, heap_lt I.r3, ?_⟩⟩
  exact g _ A _ ⟨g0, g1, g2, g3, I.set3 k false hk, hS⟩ ⟨(Keeps.refl A w).setCell (.inl ((hS g3).2 (.inr (.inr (.inr (.inr rfl)))))) _, fun k hk => .inl hk⟩
theorem Hp.docok (T : Hp w0 A0 w os) (i : Nat) (hi : os[i]? = some (oDoc b R)) : R.ok := by
  obtain ⟨A, H⟩ := T.get i hi
  exact Ref.isok H
theorem Hp.gateR (T : Hp w0 A0 w os) (i : Nat) (hi : os[i]? = some (oDoc b R)) (x : Bool) : ∃ y, w.cell? ⟨b, 4, none⟩ = some (.bool y) ∧ w.frozen? ⟨b, 4, none⟩ = false ∧ b < w.heap.size ∧ Hp w0 A0 (w.setCell ⟨b, 4, none⟩ (.bool !x)) (os.set i (oDoc b (R.gate x))) := by
  obtain ⟨A, ⟨g0, g1, g2, g3, I, hS⟩, g⟩ := T.turn i hi
  refine ⟨_, I.facts.2.2.2.2, free_at I.obj, heap_lt I.obj, g _ A _ ⟨g0, g1, g2, g3, ?_, hS⟩ ⟨(Keeps.refl A w).setCell (.inl ((hS b).2 (.inl rfl))) _, fun k hk => .inl hk⟩⟩
  refine ⟨?_, ?_, ?_, ?_, ?_, I.d1, I.d2, I.d3, ⟨I.ok.p1, I.ok.p2, I.ok.b⟩⟩
  · rw [heap_set_map, I.obj]; rfl
  · rw [heap_set_ne _ _ _ _ _ I.e0.symm]; exact I.r0
  · rw [heap_set_ne _ _ _ _ _ I.e1.symm]; exact I.r1
  · rw [heap_set_ne _ _ _ _ _ I.e2.symm]; exact I.r2
  · rw [heap_set_ne _ _ _ _ _ I.e3.symm]; exact I.r3
end
end Go.Proofs.Ytfdeojefcfnogaa
