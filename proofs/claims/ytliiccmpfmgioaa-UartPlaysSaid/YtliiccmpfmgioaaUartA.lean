/- uart: a serial port, as what it holds; what its calls do to it, in plain words; a byte that came, and one that comes. -/
import Derived.Test.YtliiccmpfmgioaaRows
import Derived.Test.YtliiccmpfmgioaaObj
import Derived.Conc.LoneCalls
import Derived.Conc.LoneSelect
import Derived.Conc.LoneSelectN
import Derived.KernelRfl
import Derived.Laws.Rows
import Derived.Laws.BitsAll
import Derived.Lib.Hide
import Derived.Laws.AppendOwn
namespace Go.Proofs.Ytliiccmpfmgioaa
open Go.RowKit Go.Conc
set_option linter.unusedVariables false

/-- Numbers as bytes. -/
def bytesV (L : List Nat) : List Value := L.map fun x => .int .u8 (x : Nat)
theorem bytesV_len (L : List Nat) : (bytesV L).length = L.length := by unfold bytesV; simp
theorem bytesV_snoc (L : List Nat) (n : Nat) : bytesV (L ++ [n]) = bytesV L ++ [.int .u8 (n : Nat)] := by unfold bytesV; simp
/-- A serial port. -/
structure Ut where
  came : List Nat
  lost : Bool
  on : Bool
  empty : Bool
  d0 : Nat
  d1 : Nat
  lcr : Nat
  mcr : Nat
  scr : Nat
  wanted : Nat
  sent : List Nat
structure Ut.ok (U : Ut) : Prop where
  c1 : U.came.length ≤ 16
  c2 : ∀ x ∈ U.came, x < 256
  d0 : U.d0 < 256
  d1 : U.d1 < 256
  lcr : U.lcr < 256
  mcr : U.mcr < 256
  scr : U.scr < 256
  wanted : U.wanted < 256
  s2 : ∀ x ∈ U.sent, x < 256
def Ut.cells (U : Ut) (q : Nat) (sv : Value) : List Value :=
  [.chan (some q), .bool U.lost, .bool U.on, .bool U.empty, .int .u8 (U.d0 : Nat), .int .u8 (U.d1 : Nat), .int .u8 (U.lcr : Nat), .int .u8 (U.mcr : Nat), .int .u8 (U.scr : Nat), .int .u8 (U.wanted : Nat), sv]
structure UtIn (w : World) (b q : Nat) (sv : Value) (U : Ut) : Prop where
  obj : w.heap[b]? = some (.cells (U.cells q sv).toArray 44)
  chan : ∃ s r, w.heap[q]? = some (.chan 16 (bytesV U.came).toArray false s r false)
  sent : w.ownsRow 0 5 1 sv U.sent.length (bytesV U.sent)
  ok : U.ok
def Held (b q : Nat) (sv : Value) (k : Nat) : Prop := k = b ∨ k = q ∨ sv.ownBlock = some k
section
variable {w w' : World} {b q : Nat} {sv : Value} {U : Ut}
theorem row_of_heap {w w' : World} {B : Nat} {E : TypeId} {s n : Nat} {v : Value} {xs : List Value} (h : w.ownsRow B E s v n xs) (hh : ∀ k, v.ownBlock = some k → w'.heap[k]? = w.heap[k]?) : w'.ownsRow B E s v n xs := by
  refine ⟨h.1, ?_⟩
  rcases h.2 with h2 | ⟨g, cap, cur, rfl, hb, hg, r⟩
  · exact .inl h2
  · exact .inr ⟨g, cap, cur, rfl, hb, by rw [hh g rfl]; exact hg, r⟩
theorem row_down {w : World} {B C : Nat} {E : TypeId} {s n : Nat} {v : Value} {xs : List Value} (h : w.ownsRow B E s v n xs) (hBC : C ≤ B) : w.ownsRow C E s v n xs := by
  refine ⟨h.1, ?_⟩
  rcases h.2 with h2 | ⟨g, cap, cur, rfl, hb, hg, r⟩
  · exact .inl h2
  · exact .inr ⟨g, cap, cur, rfl, Nat.le_trans hBC hb, hg, r⟩
theorem row_len {w : World} {B : Nat} {E : TypeId} {s n : Nat} {v : Value} {xs : List Value} (h : w.ownsRow B E s v n xs) : ∃ a c, v = .slice a n c := by
  rcases h.2 with ⟨rfl, h0⟩ | ⟨g, cap, cur, rfl, _, hg, h1, h2, h3, h4⟩
  · subst h0; exact ⟨_, _, rfl⟩
  · exact ⟨_, _, rfl⟩
theorem row_block {w : World} {B : Nat} {E : TypeId} {s n : Nat} {v : Value} {xs : List Value} (h : w.ownsRow B E s v n xs) {k : Nat} (hk : v.ownBlock = some k) : ∃ cur, w.heap[k]? = some (.cells cur E (0, 0)) := by
  rcases h.2 with ⟨rfl, h0⟩ | ⟨g, cap, cur, rfl, _, hg, h1, h2, h3, h4⟩
  · cases hk
  · injection hk with hk
    subst hk
    exact ⟨_, hg⟩
theorem UtIn.lt (H : UtIn w b q sv U) {k : Nat} (h : Held b q sv k) : k < w.heap.size := by
  rcases h with rfl | rfl | h
  · exact heap_lt H.obj
  · obtain ⟨s, r, hq⟩ := H.chan
    exact heap_lt hq
  · exact (World.ownsRow.lt H.sent k h).2
theorem UtIn.bq (H : UtIn w b q sv U) : b ≠ q := by
  rintro rfl
  obtain ⟨s, r, hq⟩ := H.chan
  rw [H.obj] at hq; cases hq
theorem UtIn.bs (H : UtIn w b q sv U) : sv.ownBlock ≠ some b := by
  intro h
  obtain ⟨cur, hc⟩ := row_block H.sent h
  rw [H.obj] at hc
  simp at hc
theorem UtIn.qs (H : UtIn w b q sv U) : sv.ownBlock ≠ some q := by
  intro h
  obtain ⟨cur, hc⟩ := row_block H.sent h
  obtain ⟨s, r, hq⟩ := H.chan
  rw [hq] at hc; cases hc
theorem UtIn.of_heap (H : UtIn w b q sv U) (h : ∀ k, Held b q sv k → w'.heap[k]? = w.heap[k]?) : UtIn w' b q sv U := by
  obtain ⟨s, r, hq⟩ := H.chan
  exact ⟨by rw [h b (.inl rfl)]; exact H.obj, ⟨s, r, by rw [h q (.inr (.inl rfl))]; exact hq⟩, row_of_heap H.sent fun k hk => h k (.inr (.inr hk)), H.ok⟩
theorem UtIn.keeps {S : Nat → Prop} (H : UtIn w b q sv U) (hk : Keeps S w w') (hn : ∀ k, Held b q sv k → ¬ S k) : UtIn w' b q sv U :=
  H.of_heap fun k h => hk.block k (H.lt h) (hn k h)
theorem UtIn.facts (H : UtIn w b q sv U) :
    w.cell? ⟨b, 0, none⟩ = some (.chan (some q)) ∧ w.cell? ⟨b, 1, none⟩ = some (.bool U.lost) ∧ w.cell? ⟨b, 2, none⟩ = some (.bool U.on) ∧ w.cell? ⟨b, 3, none⟩ = some (.bool U.empty) ∧
    w.cell? ⟨b, 4, none⟩ = some (.int .u8 (U.d0 : Nat)) ∧ w.cell? ⟨b, 5, none⟩ = some (.int .u8 (U.d1 : Nat)) ∧ w.cell? ⟨b, 6, none⟩ = some (.int .u8 (U.lcr : Nat)) ∧ w.cell? ⟨b, 7, none⟩ = some (.int .u8 (U.mcr : Nat)) ∧
    w.cell? ⟨b, 8, none⟩ = some (.int .u8 (U.scr : Nat)) ∧ w.cell? ⟨b, 9, none⟩ = some (.int .u8 (U.wanted : Nat)) ∧ w.cell? ⟨b, 10, none⟩ = some sv ∧ (∀ k, w.frozen? ⟨b, k, none⟩ = false) ∧ b < w.heap.size := by
  have h := H.obj
  refine ⟨?_, ?_, ?_, ?_, ?_, ?_, ?_, ?_, ?_, ?_, ?_, fun k => free_at h, heap_lt h⟩ <;> (rw [cell_at h]; rfl)
/-- A store into the object. -/
theorem UtIn.turn (H : UtIn w b q sv U) {U' : Ut} (k : Nat) (v : Value) (hc : (U.cells q sv).set k v = U'.cells q sv) (h1 : U'.came = U.came) (h2 : U'.sent = U.sent) (ok : U'.ok) : UtIn (w.setCell ⟨b, k, none⟩ v) b q sv U' := by
  have hne : ∀ j, j ≠ b → (w.setCell ⟨b, k, none⟩ v).heap[j]? = w.heap[j]? := fun j h => heap_set_other _ h
  obtain ⟨s, r, hq⟩ := H.chan
  refine ⟨by rw [heap_set_map, H.obj]; simp only [Option.map_some, putObj_cells]; rw [hc], ⟨s, r, by rw [hne q H.bq.symm, h1]; exact hq⟩, ?_, ok⟩
  rw [h2]
  exact row_of_heap H.sent fun j hj => hne j fun e => H.bs (by rw [← e]; exact hj)
theorem keeps_setChan (w : World) (c cap : Nat) (buf : Array Value) (cl : Bool) (s r : Nat) (tm : Bool) : Keeps (· = c) w (w.setChan c cap buf cl s r tm) :=
  ⟨rfl, rfl, rfl, by simp [World.setChan], fun i hi hn => by simp only [World.setChan]; rw [Array.getElem?_setIfInBounds_ne (fun e => hn e.symm)]⟩
/-- The channel holds something else. -/
theorem UtIn.flow (H : UtIn w b q sv U) {L : List Nat} (s r : Nat) (h1 : L.length ≤ 16) (h2 : ∀ x ∈ L, x < 256) : UtIn (w.setChan q 16 (bytesV L).toArray false s r false) b q sv { U with came := L } := by
  have K := keeps_setChan w q 16 (bytesV L).toArray false s r false
  refine ⟨by rw [K.block b (H.lt (.inl rfl)) H.bq]; exact H.obj, ⟨s, r, heap_setChan w q _ _ _ _ _ _ (H.lt (.inr (.inl rfl)))⟩, row_of_heap H.sent fun k hk => K.block k (H.lt (.inr (.inr hk))) (fun e => H.qs (by rw [← e]; exact hk)), ?_⟩
  exact ⟨h1, h2, H.ok.d0, H.ok.d1, H.ok.lcr, H.ok.mcr, H.ok.scr, H.ok.wanted, H.ok.s2⟩
end

set_option maxRecDepth 100000 in
theorem next_some {w : World} {b q : Nat} {sv : Value} {U : Ut} (H : UtIn w b q sv U) (x : Nat) (l : List Nat) (hx : U.came = x :: l) :
    Calls Try.prog 21 #[.pointer (some ⟨b, 0, none⟩)] w fun e w' => e = .returned (.tuple #[.int .u8 (x : Nat), .bool true]) ∧ UtIn w' b q sv { U with came := l } ∧ Keeps (· = q) w w' := by
  obtain ⟨k0, -⟩ := H.facts
  obtain ⟨s, r, hq⟩ := H.chan
  have e1 : ((bytesV U.came).toArray).extract 1 ((bytesV U.came).toArray).size = (bytesV l).toArray := by rw [hx]; simp [bytesV]; rw [List.take_of_length_le (by simp)]
  have e2 : ((bytesV U.came).toArray).getD 0 undef = .int .u8 (x : Nat) := by rw [hx]; simp [bytesV]
  have e3 : 0 < ((bytesV U.came).toArray).size := by rw [hx]; simp [bytesV]
  have h16 : l.length ≤ 16 := by have := H.ok.c1; rw [hx] at this; simp at this; omega
  have h256 : ∀ y ∈ l, y < 256 := fun y hy => H.ok.c2 y (by rw [hx]; exact List.mem_cons_of_mem _ hy)
  have hfr : w.frozen? ⟨b, 0, none⟩ = false := free_at H.obj
  have hl : b < w.heap.size := heap_lt H.obj
  refine calls_of_loneTo fun cs => ?_
  have e : Frame.enter Try.prog 21 #[.pointer (some ⟨b, 0, none⟩)] .normal = (base 21).at ⟨#[.pointer (some ⟨b, 0, none⟩), undef, undef, undef, undef, undef, undef, undef, undef, undef, undef, undef, undef, undef], []⟩ [.code (Try.f21.body.getD .skip)] := by
    simp [Frame.enter, Frame.at, Try.func21, base, Try.f21]
  rw [e]
  refine LoneTo.goes (n := 40) ?_
  simp only [Try.f21, Option.getD_some]
  s_c stepG_seq
  s_reg
  s_op
  s_op
  s_c stepG_region_end
  s_c stepG_seq
  s_reg
  s_op
  s_op
  s_op
  s_op
  s_c stepG_region_end
  s_c stepG_seq
  s_reg
  s_stop
  refine LoneTo.step (step_lone_select_recv_buf (c := q) (z := .int .u8 0) (stepG_comm (cases := #[rcase q (.int .u8 0)]) (blocking := false) (shape := .select) (w' := w) rfl rfl (by decide) (by simp [go_sem, execOp, rcase, Act.eval])) hq e3) ?_
  rw [e1, e2, Frame.finish_at]
  walk_nrm
  refine LoneTo.goes (n := 40) ?_
  s_op
  s_op
  s_c stepG_region_end
  s_c stepG_block
  s_cond true
  s_c stepG_seq
  s_reg
  s_op
  s_op
  s_c stepG_region_end
  s_c stepG_seq
  s_reg
  s_op
  s_op
  s_op
  s_c stepG_region_end
  s_c stepG_ret'
  s_stop
  exact LoneTo.done ⟨.returned (.tuple #[.int .u8 (x : Nat), .bool true]), _, rfl, ⟨rfl, H.flow s (r + 1) h16 h256, keeps_setChan _ _ _ _ _ _ _ _⟩, rfl, rfl, rfl, rfl, _, Try.func21, by simp [results, Try.f21, Frame.at]⟩
set_option maxRecDepth 100000 in
theorem next_none {w : World} {b q : Nat} {sv : Value} {U : Ut} (H : UtIn w b q sv U) (hx : U.came = []) :
    Calls Try.prog 21 #[.pointer (some ⟨b, 0, none⟩)] w fun e w' => e = .returned (.tuple #[.int .u8 0, .bool false]) ∧ w = w' := by
  obtain ⟨k0, -⟩ := H.facts
  obtain ⟨s, r, hq⟩ := H.chan
  rw [hx] at hq
  have hq : w.heap[q]? = some (.chan 16 #[] false s r false) := hq
  have hfr : w.frozen? ⟨b, 0, none⟩ = false := free_at H.obj
  have hl : b < w.heap.size := heap_lt H.obj
  refine calls_of_loneTo fun cs => ?_
  have e : Frame.enter Try.prog 21 #[.pointer (some ⟨b, 0, none⟩)] .normal = (base 21).at ⟨#[.pointer (some ⟨b, 0, none⟩), undef, undef, undef, undef, undef, undef, undef, undef, undef, undef, undef, undef, undef], []⟩ [.code (Try.f21.body.getD .skip)] := by
    simp [Frame.enter, Frame.at, Try.func21, base, Try.f21]
  rw [e]
  refine LoneTo.goes (n := 40) ?_
  simp only [Try.f21, Option.getD_some]
  s_c stepG_seq
  s_reg
  s_op
  s_op
  s_c stepG_region_end
  s_c stepG_seq
  s_reg
  s_op
  s_op
  s_op
  s_op
  s_c stepG_region_end
  s_c stepG_seq
  s_reg
  s_stop
  refine LoneTo.step (step_lone_select_default (c := q) (z := .int .u8 0) (stepG_comm (cases := #[rcase q (.int .u8 0)]) (blocking := false) (shape := .select) (w' := w) rfl rfl (by decide) (by simp [go_sem, execOp, rcase, Act.eval])) hq) ?_
  rw [Frame.finish_at]
  walk_nrm
  refine LoneTo.goes (n := 40) ?_
  s_op
  s_op
  s_c stepG_region_end
  s_c stepG_block
  s_cond false
  s_c stepG_seq
  s_reg
  s_op
  s_op
  s_c stepG_region_end
  s_c stepG_ret'
  s_stop
  exact LoneTo.done ⟨.returned (.tuple #[.int .u8 0, .bool false]), _, rfl, ⟨rfl, rfl⟩, rfl, rfl, rfl, rfl, _, Try.func21, by simp [results, Try.f21, Frame.at]⟩
end Go.Proofs.Ytliiccmpfmgioaa
