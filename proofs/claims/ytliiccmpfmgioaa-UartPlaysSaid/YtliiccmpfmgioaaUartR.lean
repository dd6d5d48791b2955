/- uart: the document's port, over the same plain state. -/
import Derived.Test.YtliiccmpfmgioaaUartH
import Derived.Test.YtliiccmpfmgioaaRow
namespace Go.Proofs.Ytliiccmpfmgioaa
open Go.RowKit Go.Conc
set_option linter.unusedVariables false

def Ut.rcells (U : Ut) (cv ov : Value) : List Value :=
  [cv, .bool U.lost, .int .u8 (U.d0 : Nat), .int .u8 (U.d1 : Nat), .int .u8 (U.lcr : Nat), .int .u8 (U.mcr : Nat), .int .u8 (U.scr : Nat), .int .u8 (U.wanted : Nat), .bool U.on, .bool U.empty, ov]
structure RfIn (w : World) (b : Nat) (cv ov : Value) (U : Ut) : Prop where
  obj : w.heap[b]? = some (.cells (U.rcells cv ov).toArray 49)
  came : RowC w 5 1 cv U.came.length (bytesV U.came)
  out : w.ownsRow 0 5 1 ov U.sent.length (bytesV U.sent)
  d : ∀ k, cv.ownBlock = some k → ov.ownBlock ≠ some k
  ok : U.ok
def RHeld (b : Nat) (cv ov : Value) (k : Nat) : Prop := k = b ∨ cv.ownBlock = some k ∨ ov.ownBlock = some k
section
variable {w w' : World} {b : Nat} {cv ov : Value} {U : Ut}
theorem RfIn.lt (H : RfIn w b cv ov U) {k : Nat} (h : RHeld b cv ov k) : k < w.heap.size := by
  rcases h with rfl | h | h
  · exact heap_lt H.obj
  · exact H.came.lt h
  · exact (World.ownsRow.lt H.out k h).2
theorem RfIn.bc (H : RfIn w b cv ov U) : cv.ownBlock ≠ some b := by
  intro h
  obtain ⟨cur, hc⟩ := H.came.block h
  rw [H.obj] at hc
  simp at hc
theorem RfIn.bo (H : RfIn w b cv ov U) : ov.ownBlock ≠ some b := by
  intro h
  obtain ⟨cur, hc⟩ := row_block H.out h
  rw [H.obj] at hc
  simp at hc
theorem RfIn.of_heap (H : RfIn w b cv ov U) (h : ∀ k, RHeld b cv ov k → w'.heap[k]? = w.heap[k]?) : RfIn w' b cv ov U :=
  ⟨by rw [h b (.inl rfl)]; exact H.obj, H.came.of_heap fun k hk => h k (.inr (.inl hk)), row_of_heap H.out fun k hk => h k (.inr (.inr hk)), H.d, H.ok⟩
theorem RfIn.facts (H : RfIn w b cv ov U) :
    w.cell? ⟨b, 0, none⟩ = some cv ∧ w.cell? ⟨b, 1, none⟩ = some (.bool U.lost) ∧ w.cell? ⟨b, 2, none⟩ = some (.int .u8 (U.d0 : Nat)) ∧ w.cell? ⟨b, 3, none⟩ = some (.int .u8 (U.d1 : Nat)) ∧ w.cell? ⟨b, 4, none⟩ = some (.int .u8 (U.lcr : Nat)) ∧
    w.cell? ⟨b, 5, none⟩ = some (.int .u8 (U.mcr : Nat)) ∧ w.cell? ⟨b, 6, none⟩ = some (.int .u8 (U.scr : Nat)) ∧ w.cell? ⟨b, 7, none⟩ = some (.int .u8 (U.wanted : Nat)) ∧
    w.cell? ⟨b, 8, none⟩ = some (.bool U.on) ∧ w.cell? ⟨b, 9, none⟩ = some (.bool U.empty) ∧ w.cell? ⟨b, 10, none⟩ = some ov ∧ (∀ k, w.frozen? ⟨b, k, none⟩ = false) ∧ b < w.heap.size := by
  have h := H.obj
  refine ⟨?_, ?_, ?_, ?_, ?_, ?_, ?_, ?_, ?_, ?_, ?_, fun k => free_at h, heap_lt h⟩ <;> (rw [cell_at h]; rfl)
/-- A store into the object, its two slices as they are. -/
theorem RfIn.turn (H : RfIn w b cv ov U) {U' : Ut} (k : Nat) (v : Value) (hc : (U.rcells cv ov).set k v = U'.rcells cv ov) (h1 : U'.came = U.came) (h2 : U'.sent = U.sent) (ok : U'.ok) : RfIn (w.setCell ⟨b, k, none⟩ v) b cv ov U' := by
  have hne : ∀ j, j ≠ b → (w.setCell ⟨b, k, none⟩ v).heap[j]? = w.heap[j]? := fun j h => heap_set_other _ h
  refine ⟨by rw [heap_set_map, H.obj]; simp only [Option.map_some, putObj_cells]; rw [hc], ?_, ?_, H.d, ok⟩
  · rw [h1]; exact H.came.of_heap fun j hj => hne j fun e => H.bc (by rw [← e]; exact hj)
  · rw [h2]; exact row_of_heap H.out fun j hj => hne j fun e => H.bo (by rw [← e]; exact hj)
/-- No byte that came is left. -/
theorem RfIn.drain (H : RfIn w b cv ov U) : RfIn (w.setCell ⟨b, 0, none⟩ (.slice none 0 0)) b (.slice none 0 0) ov (U.flow []) := by
  have hne : ∀ j, j ≠ b → (w.setCell ⟨b, 0, none⟩ (.slice none 0 0)).heap[j]? = w.heap[j]? := fun j h => heap_set_other _ h
  have o := H.ok
  exact ⟨by rw [heap_set_map, H.obj]; rfl, RowC.nil _ _ _, row_of_heap H.out fun j hj => hne j fun e => H.bo (by rw [← e]; exact hj), (fun k hk => by cases hk),
    ⟨(by show 0 ≤ 16; decide), (fun x hx => by cases hx), o.d0, o.d1, o.lcr, o.mcr, o.scr, o.wanted, o.s2⟩⟩
theorem RfIn.quit (H : RfIn w b cv ov U) : RfIn (w.setCell ⟨b, 10, none⟩ (.slice none 0 0)) b cv (.slice none 0 0) U.quit := by
  have hne : ∀ j, j ≠ b → (w.setCell ⟨b, 10, none⟩ (.slice none 0 0)).heap[j]? = w.heap[j]? := fun j h => heap_set_other _ h
  exact ⟨by rw [heap_set_map, H.obj]; rfl, H.came.of_heap fun j hj => hne j fun e => H.bc (by rw [← e]; exact hj), World.ownsRow_nil _ _ _ _, (fun k _ hk => by cases hk), Ut.quit_ok H.ok⟩
theorem RfIn.setD (H : RfIn w b cv ov U) (k v : Nat) (hk : k < 2) (hv : v < 256) : RfIn (w.setCell ⟨b, 2 + k, none⟩ (.int .u8 (v : Nat))) b cv ov (U.setD k v) := by
  have o := H.ok
  rcases (show k = 0 ∨ k = 1 by omega) with rfl | rfl
  · exact H.turn 2 _ rfl rfl rfl ⟨o.c1, o.c2, hv, o.d1, o.lcr, o.mcr, o.scr, o.wanted, o.s2⟩
  · exact H.turn 3 _ rfl rfl rfl ⟨o.c1, o.c2, o.d0, hv, o.lcr, o.mcr, o.scr, o.wanted, o.s2⟩
theorem RfIn.setLcr (H : RfIn w b cv ov U) (v : Nat) (hv : v < 256) : RfIn (w.setCell ⟨b, 4, none⟩ (.int .u8 (v : Nat))) b cv ov (U.setLcr v) := by
  have o := H.ok
  exact H.turn 4 _ rfl rfl rfl ⟨o.c1, o.c2, o.d0, o.d1, hv, o.mcr, o.scr, o.wanted, o.s2⟩
theorem RfIn.setMcr (H : RfIn w b cv ov U) (v : Nat) (hv : v < 256) : RfIn (w.setCell ⟨b, 5, none⟩ (.int .u8 (v : Nat))) b cv ov (U.setMcr v) := by
  have o := H.ok
  exact H.turn 5 _ rfl rfl rfl ⟨o.c1, o.c2, o.d0, o.d1, o.lcr, hv, o.scr, o.wanted, o.s2⟩
theorem RfIn.setScr (H : RfIn w b cv ov U) (v : Nat) (hv : v < 256) : RfIn (w.setCell ⟨b, 6, none⟩ (.int .u8 (v : Nat))) b cv ov (U.setScr v) := by
  have o := H.ok
  exact H.turn 6 _ rfl rfl rfl ⟨o.c1, o.c2, o.d0, o.d1, o.lcr, o.mcr, hv, o.wanted, o.s2⟩
theorem RfIn.setWanted (H : RfIn w b cv ov U) (v : Nat) (hv : v < 256) : RfIn (w.setCell ⟨b, 7, none⟩ (.int .u8 (v : Nat))) b cv ov (U.setWanted v) := by
  have o := H.ok
  exact H.turn 7 _ rfl rfl rfl ⟨o.c1, o.c2, o.d0, o.d1, o.lcr, o.mcr, o.scr, hv, o.s2⟩
theorem RfIn.setOn (H : RfIn w b cv ov U) (x : Bool) : RfIn (w.setCell ⟨b, 8, none⟩ (.bool x)) b cv ov (U.setOn x) := by
  have o := H.ok
  exact H.turn 8 _ rfl rfl rfl ⟨o.c1, o.c2, o.d0, o.d1, o.lcr, o.mcr, o.scr, o.wanted, o.s2⟩
theorem RfIn.setEmpty (H : RfIn w b cv ov U) (x : Bool) : RfIn (w.setCell ⟨b, 9, none⟩ (.bool x)) b cv ov (U.setEmpty x) := by
  have o := H.ok
  exact H.turn 9 _ rfl rfl rfl ⟨o.c1, o.c2, o.d0, o.d1, o.lcr, o.mcr, o.scr, o.wanted, o.s2⟩
theorem RfIn.setLost (H : RfIn w b cv ov U) (x : Bool) : RfIn (w.setCell ⟨b, 1, none⟩ (.bool x)) b cv ov (U.setLost x) := by
  have o := H.ok
  exact H.turn 1 _ rfl rfl rfl ⟨o.c1, o.c2, o.d0, o.d1, o.lcr, o.mcr, o.scr, o.wanted, o.s2⟩
theorem rkeeps (w : World) (b : Nat) (cv ov : Value) (k : Nat) (v : Value) : Keeps (RHeld b cv ov) w (w.setCell ⟨b, k, none⟩ v) := (Keeps.refl _ _).setCell (.inl (.inl rfl)) _
/-- What a call leaves of the document's port. -/
def RWent (w : World) (b : Nat) (cv ov : Value) (U' : Ut) (w' : World) : Prop :=
  ∃ cv' ov', RfIn w' b cv' ov' U' ∧ Keeps (RHeld b cv ov) w w' ∧ ∀ k, RHeld b cv' ov' k → RHeld b cv ov k ∨ w.heap.size ≤ k
theorem RWent.of {U' : Ut} (H : RfIn w' b cv ov U') (K : Keeps (RHeld b cv ov) w w') : RWent w b cv ov U' w' := ⟨cv, ov, H, K, fun k h => .inl h⟩
theorem rnew_any (w : World) : Calls Try.prog 13 #[] w fun e w' => e = .returned (.pointer (some ⟨w.heap.size, 0, none⟩)) ∧ RfIn w' w.heap.size (.slice none 0 0) (.slice none 0 0) Ut.new ∧ Below w.heap.size w w' := by
  go_enter Try.func13, Try.ntmps13
  go_wp2_with fail
  go_ret
  exact ⟨rfl, ⟨heap_new w _, RowC.nil _ _ _, World.ownsRow_nil _ _ _ _, (fun k hk => by cases hk), Ut.new_ok⟩, (Below.refl _ _).alloc (Nat.le_refl _) _⟩
theorem rsent_any (H : RfIn w b cv ov U) : Calls Try.prog 18 #[.pointer (some ⟨b, 0, none⟩)] w fun e w' => e = .returned ov ∧ RfIn w' b cv (.slice none 0 0) U.quit ∧ w'.ownsRow 0 5 1 ov U.sent.length (bytesV U.sent) ∧ Keeps (· = b) w w' := by
  obtain ⟨-, -, -, -, -, -, -, -, -, -, k10, kf, kl⟩ := H.facts
  have HO := H.out
  obtain ⟨a, c, rfl⟩ := row_len HO
  have HH1 := Lib.hid H.quit
  have hne : ∀ j, j ≠ b → (w.setCell ⟨b, 10, none⟩ (.slice none 0 0)).heap[j]? = w.heap[j]? := fun j h => heap_set_other _ h
  have HH2 := Lib.hid (row_of_heap (w' := w.setCell ⟨b, 10, none⟩ (.slice none 0 0)) HO fun k hk => hne k fun e => H.bo (by rw [← e]; exact hk))
  clear HO hne H
  go_enter Try.func18, Try.ntmps18
  go_wp2_with fail
  go_ret
  exact ⟨rfl, HH1.out, HH2.out, (Keeps.refl _ _).setOne _ _⟩
set_option maxHeartbeats 2000000 in
theorem rwhy_any (H : RfIn w b cv ov U) : Calls Try.prog 23 #[.pointer (some ⟨b, 0, none⟩)] w fun e w' => e = .returned (.int .u8 (U.why : Nat)) ∧ w = w' := by
  obtain ⟨k0, -, -, -, -, -, -, k7, -, k9, -, kf, kl⟩ := H.facts
  obtain ⟨a, c, rfl⟩ := H.came.len
  have hw : U.why = if (!U.came.isEmpty && U.wanted % 2 == 1) then 4 else if (U.empty && U.wanted / 2 % 2 == 1) then 2 else 1 := rfl
  have hwt := H.ok.wanted
  clear H
  generalize U.why = y at *
  generalize U.empty = e at *
  generalize U.wanted = wt at *
  have hn : ∃ n, n = U.came.length := ⟨_, rfl⟩
  obtain ⟨n, hn⟩ := hn
  rw [← hn] at k0
  have he : U.came.isEmpty = decide (n = 0) := by rw [hn]; cases U.came <;> simp
  rw [he] at hw
  clear hn he
  have h1 : (wt : Int) % 2 = 0 ∨ (wt : Int) % 2 = 1 := by omega
  have h2 : (wt : Int) / 2 % 2 = 0 ∨ (wt : Int) / 2 % 2 = 1 := by omega
  have h3 : (n : Int) ≤ 0 ∨ (0 : Int) < n := by omega
  rcases h1 with h1 | h1 <;> rcases h2 with h2 | h2 <;> rcases h3 with h3 | h3 <;> cases e
  all_goals
    have d1 : (wt % 2 == 1) = decide ((wt : Int) % 2 = 1) := by rw [Bool.eq_iff_iff]; simp; omega
    have d2 : (wt / 2 % 2 == 1) = decide ((wt : Int) / 2 % 2 = 1) := by rw [Bool.eq_iff_iff]; simp; omega
    have d3 : decide (n = 0) = decide ((n : Int) ≤ 0) := by rw [Bool.eq_iff_iff]; simp
    rw [d1, d2, d3, h1, h2] at hw
    first | rw [decide_eq_true h3] at hw | rw [decide_eq_false (show ¬ (n : Int) ≤ 0 by omega)] at hw
    simp at hw
    have HW := Lib.hid hw
    clear hw d1 d2 d3
    go_enter Try.func23, Try.ntmps23
    go_wp2_with fail
    go_ret
    exact ⟨by rw [HW.out]; rfl, rfl⟩
theorem rline_any (H : RfIn w b cv ov U) : Calls Try.prog 20 #[.pointer (some ⟨b, 0, none⟩)] w fun e w' => e = .returned (.bool U.line) ∧ w = w' := by
  have HL := Lib.hid (Ut.line_eq U)
  go_enter Try.func20, Try.ntmps20
  go_wp2_with fail
  refine (rwhy_any H).mono ?_
  rintro e w1 ⟨rfl, rfl⟩
  go_wp2_with fail
  go_ret
  exact ⟨by rw [HL.out]; rfl, rfl⟩
end
end Go.Proofs.Ytliiccmpfmgioaa
