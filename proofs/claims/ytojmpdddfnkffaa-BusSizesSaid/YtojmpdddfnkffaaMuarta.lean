/- UartA UartB UartC UartD UartE, together. -/
import Derived.Test.YtojmpdddfnkffaaRows
import Derived.Test.YtojmpdddfnkffaaObj
import Derived.Conc.LoneCalls
import Derived.Conc.LoneSelect
import Derived.Conc.LoneSelectN
import Derived.KernelRfl
import Derived.Laws.Rows
import Derived.Laws.BitsAll
import Derived.Lib.Hide
import Derived.Laws.AppendOwn
import Derived.Deep.CutRange
import Derived.Maps.AppendAt
/- uart: a serial port, as what it holds; what its calls do to it, in plain words; a byte that came, and one that comes. -/
namespace Go.Proofs.Ytojmpdddfnkffaa.Uart
open Go.RowKit Go.Conc
set_option linter.unusedVariables false

/-- Numbers as bytes. -/
def bytesV (L : List Nat) : List Value := L.map fun x => .int .u8 (x : Nat)
theorem bytesV_len (L : List Nat) : (bytesV L).length = L.length := by unfold bytesV; simp
theorem bytesV_snoc (L : List Nat) (n : Nat) : bytesV (L ++ [n]) = bytesV L ++ [.int .u8 (n : Nat)] := by unfold bytesV; simp
/-- A serial port. -/
structure Ut where
  came : List Nat
  lost : Bool
  on : Bool
  empty : Bool
  d0 : Nat
  d1 : Nat
  lcr : Nat
  mcr : Nat
  scr : Nat
  wanted : Nat
  sent : List Nat
structure Ut.ok (U : Ut) : Prop where
  c1 : U.came.length ≤ 16
  c2 : ∀ x ∈ U.came, x < 256
  d0 : U.d0 < 256
  d1 : U.d1 < 256
  lcr : U.lcr < 256
  mcr : U.mcr < 256
  scr : U.scr < 256
  wanted : U.wanted < 256
  s2 : ∀ x ∈ U.sent, x < 256
def Ut.cells (U : Ut) (q : Nat) (sv : Value) : List Value :=
  [.chan (some q), .bool U.lost, .bool U.on, .bool U.empty, .int .u8 (U.d0 : Nat), .int .u8 (U.d1 : Nat), .int .u8 (U.lcr : Nat), .int .u8 (U.mcr : Nat), .int .u8 (U.scr : Nat), .int .u8 (U.wanted : Nat), sv]
structure UtIn (w : World) (b q : Nat) (sv : Value) (U : Ut) : Prop where
  obj : w.heap[b]? = some (.cells (U.cells q sv).toArray 123)
  chan : ∃ s r, w.heap[q]? = some (.chan 16 (bytesV U.came).toArray false s r false)
  sent : w.ownsRow 0 5 1 sv U.sent.length (bytesV U.sent)
  ok : U.ok
def Held (b q : Nat) (sv : Value) (k : Nat) : Prop := k = b ∨ k = q ∨ sv.ownBlock = some k
section
variable {w w' : World} {b q : Nat} {sv : Value} {U : Ut}
theorem row_of_heap {w w' : World} {B : Nat} {E : TypeId} {s n : Nat} {v : Value} {xs : List Value} (h : w.ownsRow B E s v n xs) (hh : ∀ k, v.ownBlock = some k → w'.heap[k]? = w.heap[k]?) : w'.ownsRow B E s v n xs := by
  refine ⟨h.1, ?_⟩
  rcases h.2 with h2 | ⟨g, cap, cur, rfl, hb, hg, r⟩
  · exact .inl h2
  · exact .inr ⟨g, cap, cur, rfl, hb, by rw [hh g rfl]; exact hg, r⟩
theorem row_down {w : World} {B C : Nat} {E : TypeId} {s n : Nat} {v : Value} {xs : List Value} (h : w.ownsRow B E s v n xs) (hBC : C ≤ B) : w.ownsRow C E s v n xs := by
  refine ⟨h.1, ?_⟩
  rcases h.2 with h2 | ⟨g, cap, cur, rfl, hb, hg, r⟩
  · exact .inl h2
  · exact .inr ⟨g, cap, cur, rfl, Nat.le_trans hBC hb, hg, r⟩
theorem row_len {w : World} {B : Nat} {E : TypeId} {s n : Nat} {v : Value} {xs : List Value} (h : w.ownsRow B E s v n xs) : ∃ a c, v = .slice a n c := by
  rcases h.2 with ⟨rfl, h0⟩ | ⟨g, cap, cur, rfl, _, hg, h1, h2, h3, h4⟩
  · subst h0; exact ⟨_, _, rfl⟩
  · exact ⟨_, _, rfl⟩
theorem row_block {w : World} {B : Nat} {E : TypeId} {s n : Nat} {v : Value} {xs : List Value} (h : w.ownsRow B E s v n xs) {k : Nat} (hk : v.ownBlock = some k) : ∃ cur, w.heap[k]? = some (.cells cur E (0, 0)) := by
  rcases h.2 with ⟨rfl, h0⟩ | ⟨g, cap, cur, rfl, _, hg, h1, h2, h3, h4⟩
  · cases hk
  · injection hk with hk
    subst hk
    exact ⟨_, hg⟩
theorem UtIn.lt (H : UtIn w b q sv U) {k : Nat} (h : Held b q sv k) : k < w.heap.size := by
  rcases h with rfl | rfl | h
  · exact heap_lt H.obj
  · obtain ⟨s, r, hq⟩ := H.chan
    exact heap_lt hq
  · exact (World.ownsRow.lt H.sent k h).2
theorem UtIn.bq (H : UtIn w b q sv U) : b ≠ q := by
  rintro rfl
  obtain ⟨s, r, hq⟩ := H.chan
  rw [H.obj] at hq; cases hq
theorem UtIn.bs (H : UtIn w b q sv U) : sv.ownBlock ≠ some b := by
  intro h
  obtain ⟨cur, hc⟩ := row_block H.sent h
  rw [H.obj] at hc
  simp at hc
theorem UtIn.qs (H : UtIn w b q sv U) : sv.ownBlock ≠ some q := by
  intro h
  obtain ⟨cur, hc⟩ := row_block H.sent h
  obtain ⟨s, r, hq⟩ := H.chan
  rw [hq] at hc; cases hc
theorem UtIn.of_heap (H : UtIn w b q sv U) (h : ∀ k, Held b q sv k → w'.heap[k]? = w.heap[k]?) : UtIn w' b q sv U := by
  obtain ⟨s, r, hq⟩ := H.chan
  exact ⟨by rw [h b (.inl rfl)]; exact H.obj, ⟨s, r, by rw [h q (.inr (.inl rfl))]; exact hq⟩, row_of_heap H.sent fun k hk => h k (.inr (.inr hk)), H.ok⟩
theorem UtIn.keeps {S : Nat → Prop} (H : UtIn w b q sv U) (hk : Keeps S w w') (hn : ∀ k, Held b q sv k → ¬ S k) : UtIn w' b q sv U :=
  H.of_heap fun k h => hk.block k (H.lt h) (hn k h)
theorem UtIn.facts (H : UtIn w b q sv U) :
    w.cell? ⟨b, 0, none⟩ = some (.chan (some q)) ∧ w.cell? ⟨b, 1, none⟩ = some (.bool U.lost) ∧ w.cell? ⟨b, 2, none⟩ = some (.bool U.on) ∧ w.cell? ⟨b, 3, none⟩ = some (.bool U.empty) ∧
    w.cell? ⟨b, 4, none⟩ = some (.int .u8 (U.d0 : Nat)) ∧ w.cell? ⟨b, 5, none⟩ = some (.int .u8 (U.d1 : Nat)) ∧ w.cell? ⟨b, 6, none⟩ = some (.int .u8 (U.lcr : Nat)) ∧ w.cell? ⟨b, 7, none⟩ = some (.int .u8 (U.mcr : Nat)) ∧
    w.cell? ⟨b, 8, none⟩ = some (.int .u8 (U.scr : Nat)) ∧ w.cell? ⟨b, 9, none⟩ = some (.int .u8 (U.wanted : Nat)) ∧ w.cell? ⟨b, 10, none⟩ = some sv ∧ (∀ k, w.frozen? ⟨b, k, none⟩ = false) ∧ b < w.heap.size := by
  have h := H.obj
  refine ⟨?_, ?_, ?_, ?_, ?_, ?_, ?_, ?_, ?_, ?_, ?_, fun k => free_at h, heap_lt h⟩ <;> (rw [cell_at h]; rfl)
/-- A store into the object. -/
theorem UtIn.turn (H : UtIn w b q sv U) {U' : Ut} (k : Nat) (v : Value) (hc : (U.cells q sv).set k v = U'.cells q sv) (h1 : U'.came = U.came) (h2 : U'.sent = U.sent) (ok : U'.ok) : UtIn (w.setCell ⟨b, k, none⟩ v) b q sv U' := by
  have hne : ∀ j, j ≠ b → (w.setCell ⟨b, k, none⟩ v).heap[j]? = w.heap[j]? := fun j h => heap_set_other _ h
  obtain ⟨s, r, hq⟩ := H.chan
  refine ⟨by rw [heap_set_map, H.obj]; simp only [Option.map_some, putObj_cells]; rw [hc], ⟨s, r, by rw [hne q H.bq.symm, h1]; exact hq⟩, ?_, ok⟩
  rw [h2]
  exact row_of_heap H.sent fun j hj => hne j fun e => H.bs (by rw [← e]; exact hj)
theorem keeps_setChan (w : World) (c cap : Nat) (buf : Array Value) (cl : Bool) (s r : Nat) (tm : Bool) : Keeps (· = c) w (w.setChan c cap buf cl s r tm) :=
  ⟨rfl, rfl, rfl, by simp [World.setChan], fun i hi hn => by simp only [World.setChan]; rw [Array.getElem?_setIfInBounds_ne (fun e => hn e.symm)]⟩
/-- The channel holds something else. -/
theorem UtIn.flow (H : UtIn w b q sv U) {L : List Nat} (s r : Nat) (h1 : L.length ≤ 16) (h2 : ∀ x ∈ L, x < 256) : UtIn (w.setChan q 16 (bytesV L).toArray false s r false) b q sv { U with came := L } := by
  have K := keeps_setChan w q 16 (bytesV L).toArray false s r false
  refine ⟨by rw [K.block b (H.lt (.inl rfl)) H.bq]; exact H.obj, ⟨s, r, heap_setChan w q _ _ _ _ _ _ (H.lt (.inr (.inl rfl)))⟩, row_of_heap H.sent fun k hk => K.block k (H.lt (.inr (.inr hk))) (fun e => H.qs (by rw [← e]; exact hk)), ?_⟩
  exact ⟨h1, h2, H.ok.d0, H.ok.d1, H.ok.lcr, H.ok.mcr, H.ok.scr, H.ok.wanted, H.ok.s2⟩
end

set_option maxRecDepth 100000 in
theorem next_some {w : World} {b q : Nat} {sv : Value} {U : Ut} (H : UtIn w b q sv U) (x : Nat) (l : List Nat) (hx : U.came = x :: l) :
    Calls Try.prog 99 #[.pointer (some ⟨b, 0, none⟩)] w fun e w' => e = .returned (.tuple #[.int .u8 (x : Nat), .bool true]) ∧ UtIn w' b q sv { U with came := l } ∧ Keeps (· = q) w w' := by
  obtain ⟨k0, -⟩ := H.facts
  obtain ⟨s, r, hq⟩ := H.chan
  have e1 : ((bytesV U.came).toArray).extract 1 ((bytesV U.came).toArray).size = (bytesV l).toArray := by rw [hx]; simp [bytesV]; rw [List.take_of_length_le (by simp)]
  have e2 : ((bytesV U.came).toArray).getD 0 undef = .int .u8 (x : Nat) := by rw [hx]; simp [bytesV]
  have e3 : 0 < ((bytesV U.came).toArray).size := by rw [hx]; simp [bytesV]
  have h16 : l.length ≤ 16 := by have := H.ok.c1; rw [hx] at this; simp at this; omega
  have h256 : ∀ y ∈ l, y < 256 := fun y hy => H.ok.c2 y (by rw [hx]; exact List.mem_cons_of_mem _ hy)
  have hfr : w.frozen? ⟨b, 0, none⟩ = false := free_at H.obj
  have hl : b < w.heap.size := heap_lt H.obj
  refine calls_of_loneTo fun cs => ?_
  have e : Frame.enter Try.prog 99 #[.pointer (some ⟨b, 0, none⟩)] .normal = (base 99).at ⟨#[.pointer (some ⟨b, 0, none⟩), undef, undef, undef, undef, undef, undef, undef, undef, undef, undef, undef, undef, undef], []⟩ [.code (Try.f99.body.getD .skip)] := by
    simp [Frame.enter, Frame.at, Try.func99, base, Try.f99]
  rw [e]
  refine LoneTo.goes (n := 40) ?_
  simp only [Try.f99, Option.getD_some]
  s_c stepG_seq
  s_reg
  s_op
  s_op
  s_c stepG_region_end
  s_c stepG_seq
  s_reg
  s_op
  s_op
  s_op
  s_op
  s_c stepG_region_end
  s_c stepG_seq
  s_reg
  s_stop
  refine LoneTo.step (step_lone_select_recv_buf (c := q) (z := .int .u8 0) (stepG_comm (cases := #[rcase q (.int .u8 0)]) (blocking := false) (shape := .select) (w' := w) rfl rfl (by decide) (by simp [go_sem, execOp, rcase, Act.eval])) hq e3) ?_
  rw [e1, e2, Frame.finish_at]
  walk_nrm
  refine LoneTo.goes (n := 40) ?_
  s_op
  s_op
  s_c stepG_region_end
  s_c stepG_block
  s_cond true
  s_c stepG_seq
  s_reg
  s_op
  s_op
  s_c stepG_region_end
  s_c stepG_seq
  s_reg
  s_op
  s_op
  s_op
  s_c stepG_region_end
  s_c stepG_ret'
  s_stop
  exact LoneTo.done ⟨.returned (.tuple #[.int .u8 (x : Nat), .bool true]), _, rfl, ⟨rfl, H.flow s (r + 1) h16 h256, keeps_setChan _ _ _ _ _ _ _ _⟩, rfl, rfl, rfl, rfl, _, Try.func99, by simp [results, Try.f99, Frame.at]⟩
set_option maxRecDepth 100000 in
theorem next_none {w : World} {b q : Nat} {sv : Value} {U : Ut} (H : UtIn w b q sv U) (hx : U.came = []) :
    Calls Try.prog 99 #[.pointer (some ⟨b, 0, none⟩)] w fun e w' => e = .returned (.tuple #[.int .u8 0, .bool false]) ∧ w = w' := by
  obtain ⟨k0, -⟩ := H.facts
  obtain ⟨s, r, hq⟩ := H.chan
  rw [hx] at hq
  have hq : w.heap[q]? = some (.chan 16 #[] false s r false) := hq
  have hfr : w.frozen? ⟨b, 0, none⟩ = false := free_at H.obj
  have hl : b < w.heap.size := heap_lt H.obj
  refine calls_of_loneTo fun cs => ?_
  have e : Frame.enter Try.prog 99 #[.pointer (some ⟨b, 0, none⟩)] .normal = (base 99).at ⟨#[.pointer (some ⟨b, 0, none⟩), undef, undef, undef, undef, undef, undef, undef, undef, undef, undef, undef, undef, undef], []⟩ [.code (Try.f99.body.getD .skip)] := by
    simp [Frame.enter, Frame.at, Try.func99, base, Try.f99]
  rw [e]
  refine LoneTo.goes (n := 40) ?_
  simp only [Try.f99, Option.getD_some]
  s_c stepG_seq
  s_reg
  s_op
  s_op
  s_c stepG_region_end
  s_c stepG_seq
  s_reg
  s_op
  s_op
  s_op
  s_op
  s_c stepG_region_end
  s_c stepG_seq
  s_reg
  s_stop
  refine LoneTo.step (step_lone_select_default (c := q) (z := .int .u8 0) (stepG_comm (cases := #[rcase q (.int .u8 0)]) (blocking := false) (shape := .select) (w' := w) rfl rfl (by decide) (by simp [go_sem, execOp, rcase, Act.eval])) hq) ?_
  rw [Frame.finish_at]
  walk_nrm
  refine LoneTo.goes (n := 40) ?_
  s_op
  s_op
  s_c stepG_region_end
  s_c stepG_block
  s_cond false
  s_c stepG_seq
  s_reg
  s_op
  s_op
  s_c stepG_region_end
  s_c stepG_ret'
  s_stop
  exact LoneTo.done ⟨.returned (.tuple #[.int .u8 0, .bool false]), _, rfl, ⟨rfl, rfl⟩, rfl, rfl, rfl, rfl, _, Try.func99, by simp [results, Try.f99, Frame.at]⟩
end Go.Proofs.Ytojmpdddfnkffaa.Uart

/- uart: a byte that comes. -/
namespace Go.Proofs.Ytojmpdddfnkffaa.Uart
open Go.RowKit Go.Conc
set_option linter.unusedVariables false

theorem stepG_idle {P : Program} {main : Bool} {b : Frame} {a : Act} {k : List Item} {cs : List Frame} {w : World} {ops : Array Oper} {i : Nat} {rest : List Nat} {o : Oper} (ho : ops[i]? = some o) (hw : Region.wanted o (yielded ops a.tmps) = false) :
    stepG P main (G (b.at a (.inRegion ops (i :: rest) :: k)) cs) w = .go (G (b.at (a.put o.dst undef) (.inRegion ops rest :: k)) cs) w := by
  have hfin : (b.at a (.inRegion ops (i :: rest) :: k)).finish undef = b.at (a.put o.dst undef) (.inRegion ops rest :: k) := by rw [Frame.finish_at, ho]; rfl
  rw [← hfin]
  simp [G, stepG, stepG.exec, Frame.at, ho, hw]
def Ut.lose (U : Ut) : Ut := { U with lost := true }
def Ut.take (U : Ut) (x : Nat) : Ut := { U with came := U.came ++ [x] }
def Ut.push (U : Ut) (x : Nat) : Ut := if U.on = false ∧ U.came ≠ [] then U.lose else if U.came.length < 16 then U.take x else U.lose
theorem Ut.lose_ok {U : Ut} (h : U.ok) : U.lose.ok := ⟨h.c1, h.c2, h.d0, h.d1, h.lcr, h.mcr, h.scr, h.wanted, h.s2⟩
section
variable {w : World} {b q : Nat} {sv : Value} {U : Ut}
theorem UtIn.lose (H : UtIn w b q sv U) : UtIn (w.setCell ⟨b, 1, none⟩ (.bool true)) b q sv U.lose := H.turn 1 (.bool true) rfl rfl rfl (Ut.lose_ok H.ok)
theorem UtIn.take (H : UtIn w b q sv U) (x : Nat) (hx : x < 256) (h2 : U.came.length < 16) (s r : Nat) : UtIn (w.setChan q 16 (bytesV (U.came ++ [x])).toArray false s r false) b q sv (U.take x) :=
  H.flow s r (by simp; omega) fun y hy => by
    rcases List.mem_append.1 hy with h | h
    · exact H.ok.c2 y h
    · simp only [List.mem_singleton] at h; omega
theorem push_nil (w : World) (x : Int) : Calls Try.prog 50 #[.pointer none, .int .u8 x] w fun e w' => e = .returned (.tuple #[]) ∧ w = w' := by
  go_enter Try.func50, Try.ntmps50
  go_wp2_with fail
  go_returns
  exact ⟨rfl, rfl⟩
theorem push_lost (H : UtIn w b q sv U) (x : Int) (h1 : U.on = false) (h2 : U.came ≠ []) :
    Calls Try.prog 50 #[.pointer (some ⟨b, 0, none⟩), .int .u8 x] w fun e w' => e = .returned (.tuple #[]) ∧ UtIn w' b q sv U.lose ∧ Keeps (fun k => k = b ∨ k = q) w w' := by
  obtain ⟨k0, k1, k2, -, -, -, -, -, -, -, -, kf, kl⟩ := H.facts
  obtain ⟨s, r, hq⟩ := H.chan
  have hlen := fun ty => run_len_chan (P := Try.prog) (w := w) 120 ty Try.underlying120 hq
  have hs : ((bytesV U.came).toArray.size : Int) > 0 := by
    have : 0 < U.came.length := List.length_pos_iff.2 h2
    simp [bytesV]; omega
  rw [h1] at k2
  have HL := Lib.hid H.lose
  generalize ((bytesV U.came).toArray.size) = n at *
  clear hq H h1 h2
  go_enter Try.func50, Try.ntmps50
  go_wp2_with fail
  go_returns
  exact ⟨rfl, HL.out, (Keeps.refl _ _).setCell (.inl (.inl rfl)) _⟩
set_option maxRecDepth 100000 in
theorem push_on (H : UtIn w b q sv U) (x : Nat) (h1 : U.on = true) (h2 : U.came.length < 16) (hx : x < 256) :
    Calls Try.prog 50 #[.pointer (some ⟨b, 0, none⟩), .int .u8 (x : Nat)] w fun e w' => e = .returned (.tuple #[]) ∧ UtIn w' b q sv (U.take x) ∧ Keeps (fun k => k = b ∨ k = q) w w' := by
  obtain ⟨k0, k1, k2, -, -, -, -, -, -, -, -, kf, kl⟩ := H.facts
  obtain ⟨s, r, hq⟩ := H.chan
  have e1 : ((bytesV U.came).toArray).push (.int .u8 (x : Nat)) = (bytesV (U.came ++ [x])).toArray := by rw [bytesV_snoc]; simp
  have e3 : ((bytesV U.came).toArray).size < 16 := by simp [bytesV]; exact h2
  rw [h1] at k2
  refine calls_of_loneTo fun cs => ?_
  have e : Frame.enter Try.prog 50 #[.pointer (some ⟨b, 0, none⟩), .int .u8 (x : Nat)] .normal = (base 50).at ⟨#[.pointer (some ⟨b, 0, none⟩), .int .u8 (x : Nat), undef, undef, undef, undef, undef, undef, undef, undef, undef, undef, undef, undef, undef, undef, undef, undef, undef, undef, undef, undef, undef, undef, undef, undef, undef, undef, undef, undef, undef, undef, undef], []⟩ [.code (Try.f50.body.getD .skip)] := by
    simp [Frame.enter, Frame.at, Try.func50, base, Try.f50]
  rw [e]
  refine LoneTo.goes (n := 80) ?_
  simp only [Try.f50, Option.getD_some]
  s_c stepG_seq
  s_c stepG_seq
  s_reg
  s_op
  s_op
  s_c stepG_region_end
  s_cond false
  s_c stepG_skip
  s_c stepG_seq
  s_c stepG_seq
  s_reg
  s_op
  s_op
  s_op
  s_op
  s_op
  s_op
  s_c (stepG_idle rfl rfl)
  walk_nrm
  s_c (stepG_idle rfl rfl)
  walk_nrm
  s_c (stepG_idle rfl rfl)
  walk_nrm
  s_c (stepG_idle rfl rfl)
  walk_nrm
  s_c (stepG_idle rfl rfl)
  walk_nrm
  s_c (stepG_idle rfl rfl)
  walk_nrm
  s_op
  s_c stepG_region_end
  s_cond false
  s_c stepG_skip
  s_c stepG_seq
  s_c stepG_seq
  s_reg
  s_op
  s_op
  s_op
  s_op
  s_c stepG_region_end
  s_reg
  s_op
  s_c stepG_region_end
  s_c stepG_seq
  s_reg
  s_stop
  refine LoneTo.step (step_lone_select_send_room (c := q) (cap := 16) (s := s) (r := r) (tm := false) (stepG_comm (cases := #[scase q (.int .u8 (x : Nat)) (.int .u8 0)]) (blocking := false) (shape := .select) (w' := w) rfl rfl (by decide) (by simp [go_sem, execOp, scase, Act.eval])) hq e3) ?_
  rw [e1, Frame.finish_at]
  walk_nrm
  refine LoneTo.goes (n := 40) ?_
  s_op
  s_op
  s_c stepG_region_end
  s_c stepG_block
  s_cond true
  s_c stepG_skip
  s_c stepG_inBlock
  s_c stepG_end
  s_stop
  exact LoneTo.done ⟨.returned (.tuple #[]), _, rfl, ⟨rfl, H.take x hx h2 (s + 1) r, (keeps_setChan _ _ _ _ _ _ _ _).mono fun k _ h => .inr h⟩, rfl, rfl, rfl, rfl, _, Try.func50, by simp [results, Try.f50, Frame.at]⟩
set_option maxRecDepth 100000 in
theorem push_full (H : UtIn w b q sv U) (x : Nat) (h1 : U.on = true) (h2 : ¬ U.came.length < 16) (hx : x < 256) :
    Calls Try.prog 50 #[.pointer (some ⟨b, 0, none⟩), .int .u8 (x : Nat)] w fun e w' => e = .returned (.tuple #[]) ∧ UtIn w' b q sv U.lose ∧ Keeps (fun k => k = b ∨ k = q) w w' := by
  obtain ⟨k0, k1, k2, -, -, -, -, -, -, -, -, kf, kl⟩ := H.facts
  obtain ⟨s, r, hq⟩ := H.chan
  have e3 : 16 ≤ ((bytesV U.came).toArray).size := by simp [bytesV]; omega
  rw [h1] at k2
  refine calls_of_loneTo fun cs => ?_
  have e : Frame.enter Try.prog 50 #[.pointer (some ⟨b, 0, none⟩), .int .u8 (x : Nat)] .normal = (base 50).at ⟨#[.pointer (some ⟨b, 0, none⟩), .int .u8 (x : Nat), undef, undef, undef, undef, undef, undef, undef, undef, undef, undef, undef, undef, undef, undef, undef, undef, undef, undef, undef, undef, undef, undef, undef, undef, undef, undef, undef, undef, undef, undef, undef], []⟩ [.code (Try.f50.body.getD .skip)] := by
    simp [Frame.enter, Frame.at, Try.func50, base, Try.f50]
  rw [e]
  refine LoneTo.goes (n := 80) ?_
  simp only [Try.f50, Option.getD_some]
  s_c stepG_seq
  s_c stepG_seq
  s_reg
  s_op
  s_op
  s_c stepG_region_end
  s_cond false
  s_c stepG_skip
  s_c stepG_seq
  s_c stepG_seq
  s_reg
  s_op
  s_op
  s_op
  s_op
  s_op
  s_op
  s_c (stepG_idle rfl rfl)
  walk_nrm
  s_c (stepG_idle rfl rfl)
  walk_nrm
  s_c (stepG_idle rfl rfl)
  walk_nrm
  s_c (stepG_idle rfl rfl)
  walk_nrm
  s_c (stepG_idle rfl rfl)
  walk_nrm
  s_c (stepG_idle rfl rfl)
  walk_nrm
  s_op
  s_c stepG_region_end
  s_cond false
  s_c stepG_skip
  s_c stepG_seq
  s_c stepG_seq
  s_reg
  s_op
  s_op
  s_op
  s_op
  s_c stepG_region_end
  s_reg
  s_op
  s_c stepG_region_end
  s_c stepG_seq
  s_reg
  s_stop
  refine LoneTo.step (step_lone_select_send_full (c := q) (cap := 16) (s := s) (r := r) (tm := false) (stepG_comm (cases := #[scase q (.int .u8 (x : Nat)) (.int .u8 0)]) (blocking := false) (shape := .select) (w' := w) rfl rfl (by decide) (by simp [go_sem, execOp, scase, Act.eval])) hq e3) ?_
  rw [Frame.finish_at]
  walk_nrm
  refine LoneTo.goes (n := 40) ?_
  s_op
  s_op
  s_c stepG_region_end
  s_c stepG_block
  s_cond false
  s_reg
  s_op
  s_op
  s_op
  s_op
  s_c stepG_region_end
  s_c stepG_inBlock
  s_c stepG_end
  s_stop
  exact LoneTo.done ⟨.returned (.tuple #[]), _, rfl, ⟨rfl, H.lose, (Keeps.refl _ _).setCell (.inl (.inl rfl)) _⟩, rfl, rfl, rfl, rfl, _, Try.func50, by simp [results, Try.f50, Frame.at]⟩
set_option maxRecDepth 100000 in
theorem push_first (H : UtIn w b q sv U) (x : Nat) (h1 : U.on = false) (h2 : U.came = []) (hx : x < 256) :
    Calls Try.prog 50 #[.pointer (some ⟨b, 0, none⟩), .int .u8 (x : Nat)] w fun e w' => e = .returned (.tuple #[]) ∧ UtIn w' b q sv (U.take x) ∧ Keeps (fun k => k = b ∨ k = q) w w' := by
  obtain ⟨k0, k1, k2, -, -, -, -, -, -, -, -, kf, kl⟩ := H.facts
  obtain ⟨s, r, hq⟩ := H.chan
  have e1 : ((bytesV U.came).toArray).push (.int .u8 (x : Nat)) = (bytesV (U.came ++ [x])).toArray := by rw [bytesV_snoc]; simp
  have e3 : ((bytesV U.came).toArray).size < 16 := by rw [h2]; decide
  have hlen := fun ty => run_len_chan (P := Try.prog) (w := w) 120 ty Try.underlying120 hq
  have e4 : ((bytesV U.came).toArray).size = 0 := by rw [h2]; rfl
  simp only [e4] at hlen
  have H16 : U.came.length < 16 := by rw [h2]; decide
  rw [h1] at k2
  clear h2 e4
  refine calls_of_loneTo fun cs => ?_
  have e : Frame.enter Try.prog 50 #[.pointer (some ⟨b, 0, none⟩), .int .u8 (x : Nat)] .normal = (base 50).at ⟨#[.pointer (some ⟨b, 0, none⟩), .int .u8 (x : Nat), undef, undef, undef, undef, undef, undef, undef, undef, undef, undef, undef, undef, undef, undef, undef, undef, undef, undef, undef, undef, undef, undef, undef, undef, undef, undef, undef, undef, undef, undef, undef], []⟩ [.code (Try.f50.body.getD .skip)] := by
    simp [Frame.enter, Frame.at, Try.func50, base, Try.f50]
  rw [e]
  refine LoneTo.goes (n := 80) ?_
  simp only [Try.f50, Option.getD_some]
  s_c stepG_seq
  s_c stepG_seq
  s_reg
  s_op
  s_op
  s_c stepG_region_end
  s_cond false
  s_c stepG_skip
  s_c stepG_seq
  s_c stepG_seq
  s_reg
  s_op
  s_op
  s_op
  s_op
  s_op
  s_op
  s_op
  s_op
  s_op
  s_op
  s_op
  s_op
  s_op
  s_c stepG_region_end
  s_cond false
  s_c stepG_skip
  s_c stepG_seq
  s_c stepG_seq
  s_reg
  s_op
  s_op
  s_op
  s_op
  s_c stepG_region_end
  s_reg
  s_op
  s_c stepG_region_end
  s_c stepG_seq
  s_reg
  s_stop
  refine LoneTo.step (step_lone_select_send_room (c := q) (cap := 16) (s := s) (r := r) (tm := false) (stepG_comm (cases := #[scase q (.int .u8 (x : Nat)) (.int .u8 0)]) (blocking := false) (shape := .select) (w' := w) rfl rfl (by decide) (by simp [go_sem, execOp, scase, Act.eval])) hq e3) ?_
  rw [e1, Frame.finish_at]
  walk_nrm
  refine LoneTo.goes (n := 40) ?_
  s_op
  s_op
  s_c stepG_region_end
  s_c stepG_block
  s_cond true
  s_c stepG_skip
  s_c stepG_inBlock
  s_c stepG_end
  s_stop
  exact LoneTo.done ⟨.returned (.tuple #[]), _, rfl, ⟨rfl, H.take x hx H16 (s + 1) r, (keeps_setChan _ _ _ _ _ _ _ _).mono fun k _ h => .inr h⟩, rfl, rfl, rfl, rfl, _, Try.func50, by simp [results, Try.f50, Frame.at]⟩
theorem push_any (H : UtIn w b q sv U) (x : Nat) (hx : x < 256) :
    Calls Try.prog 50 #[.pointer (some ⟨b, 0, none⟩), .int .u8 (x : Nat)] w fun e w' => e = .returned (.tuple #[]) ∧ UtIn w' b q sv (U.push x) ∧ Keeps (fun k => k = b ∨ k = q) w w' := by
  unfold Ut.push
  cases h1 : U.on
  · by_cases h2 : U.came = []
    · rw [if_neg (fun h => h.2 h2), if_pos (by rw [h2]; decide)]
      exact push_first H x h1 h2 hx
    · rw [if_pos ⟨rfl, h2⟩]
      exact push_lost H x h1 h2
  · rw [if_neg (fun h => by cases h.1)]
    by_cases h2 : U.came.length < 16
    · rw [if_pos h2]; exact push_on H x h1 h2 hx
    · rw [if_neg h2]; exact push_full H x h1 h2 hx
end
end Go.Proofs.Ytojmpdddfnkffaa.Uart

/- uart: what interrupts; what was sent; a new one. -/
namespace Go.Proofs.Ytojmpdddfnkffaa.Uart
open Go.RowKit Go.Conc
set_option linter.unusedVariables false

theorem masks : ∀ x : Fin 256, (x.val &&& 1) = x.val % 2 ∧ (x.val &&& 2) = x.val / 2 % 2 * 2 ∧ (x.val &&& 128) = x.val / 128 % 2 * 128 ∧ (x.val &&& 15) = x.val % 16 ∧ (x.val &&& 31) = x.val % 32 := by decide +kernel
theorem m1 (x : Nat) (h : x < 256) : bits .and .u8 (x : Int) 1 = ((x % 2 : Nat) : Int) := by
  rw [← (masks ⟨x, h⟩).1]; exact u8_and_nat x 1 h (by decide)
theorem m2 (x : Nat) (h : x < 256) : bits .and .u8 (x : Int) 2 = ((x / 2 % 2 * 2 : Nat) : Int) := by
  rw [← (masks ⟨x, h⟩).2.1]; exact u8_and_nat x 2 h (by decide)
theorem m128 (x : Nat) (h : x < 256) : bits .and .u8 (x : Int) 128 = ((x / 128 % 2 * 128 : Nat) : Int) := by
  rw [← (masks ⟨x, h⟩).2.2.1]; exact u8_and_nat x 128 h (by decide)
theorem m15 (x : Nat) (h : x < 256) : bits .and .u8 (x : Int) 15 = ((x % 16 : Nat) : Int) := by
  rw [← (masks ⟨x, h⟩).2.2.2.1]; exact u8_and_nat x 15 h (by decide)
theorem m31 (x : Nat) (h : x < 256) : bits .and .u8 (x : Int) 31 = ((x % 32 : Nat) : Int) := by
  rw [← (masks ⟨x, h⟩).2.2.2.2]; exact u8_and_nat x 31 h (by decide)
theorem t1 (x : Nat) (h : x < 256) : (bits .and .u8 (x : Int) 1 != 0) = (x % 2 == 1) := by
  rw [m1 x h]
  rcases Nat.mod_two_eq_zero_or_one x with e | e <;> rw [e] <;> rfl
theorem t2 (x : Nat) (h : x < 256) : (bits .and .u8 (x : Int) 2 != 0) = (x / 2 % 2 == 1) := by
  rw [m2 x h]
  rcases Nat.mod_two_eq_zero_or_one (x / 2) with e | e <;> rw [e] <;> rfl
theorem t128 (x : Nat) (h : x < 256) : (bits .and .u8 (x : Int) 128 != 0) = (x / 128 % 2 == 1) := by
  rw [m128 x h]
  rcases Nat.mod_two_eq_zero_or_one (x / 128) with e | e <;> rw [e] <;> rfl
def Ut.rx (U : Ut) : Bool := !U.came.isEmpty && U.wanted % 2 == 1
def Ut.tx (U : Ut) : Bool := U.empty && U.wanted / 2 % 2 == 1
def Ut.why (U : Ut) : Nat := if U.rx then 4 else if U.tx then 2 else 1
section
variable {w : World} {b q : Nat} {sv : Value} {U : Ut}
set_option maxHeartbeats 2000000 in
theorem why_any (H : UtIn w b q sv U) : Calls Try.prog 90 #[.pointer (some ⟨b, 0, none⟩)] w fun e w' => e = .returned (.int .u8 (U.why : Nat)) ∧ w = w' := by
  obtain ⟨k0, -, -, k3, -, -, -, -, -, k9, -, kf, kl⟩ := H.facts
  obtain ⟨s, r, hq⟩ := H.chan
  have hlen := fun ty => run_len_chan (P := Try.prog) (w := w) 120 ty Try.underlying120 hq
  have b1 := t1 U.wanted H.ok.wanted
  have b2 := t2 U.wanted H.ok.wanted
  have hn : ((bytesV U.came).toArray.size : Int) = U.came.length := by simp [bytesV]
  have hw : U.why = if (!U.came.isEmpty && U.wanted % 2 == 1) then 4 else if (U.empty && U.wanted / 2 % 2 == 1) then 2 else 1 := rfl
  generalize (bytesV U.came).toArray.size = n at *
  generalize U.why = y at *
  generalize U.empty = e at *
  generalize U.wanted = wt at *
  generalize (wt % 2 == 1) = c1 at *
  generalize (wt / 2 % 2 == 1) = c2 at *
  clear hq H
  cases hc : U.came with
  | nil =>
    rw [hc] at hw hn
    have hn0 : (n : Int) ≤ 0 := by rw [hn]; simp
    clear hn hc
    cases e <;> cases c2
    all_goals
      simp at hw
      have HW := Lib.hid hw
      clear hw
      go_enter Try.func90, Try.ntmps90
      go_wp2_with fail
      go_ret
      exact ⟨by rw [HW.out]; rfl, rfl⟩
  | cons x l =>
    rw [hc] at hw hn
    have hn0 : (0 : Int) < (n : Int) := by rw [hn]; simp
    clear hn hc
    cases c1 <;> cases e <;> cases c2
    all_goals
      simp at hw
      have HW := Lib.hid hw
      clear hw
      go_enter Try.func90, Try.ntmps90
      go_wp2_with fail
      go_ret
      exact ⟨by rw [HW.out]; rfl, rfl⟩
def Ut.line (U : Ut) : Bool := U.rx || U.tx
theorem Ut.line_eq (U : Ut) : ((U.why : Int) != 1) = U.line := by
  unfold Ut.why Ut.line
  cases U.rx <;> cases U.tx <;> rfl
theorem line_any (H : UtIn w b q sv U) : Calls Try.prog 67 #[.pointer (some ⟨b, 0, none⟩)] w fun e w' => e = .returned (.bool U.line) ∧ w = w' := by
  have HL := Lib.hid (Ut.line_eq U)
  go_enter Try.func67, Try.ntmps67
  go_wp2_with fail
  refine (why_any H).mono ?_
  rintro e w1 ⟨rfl, rfl⟩
  go_wp2_with fail
  go_ret
  exact ⟨by rw [HL.out]; rfl, rfl⟩
theorem line_nil (w : World) : Calls Try.prog 67 #[.pointer none] w fun e w' => e = .returned (.bool false) ∧ w = w' := by
  go_enter Try.func67, Try.ntmps67
  go_wp2_with fail
  go_ret
  exact ⟨rfl, rfl⟩
def Ut.quit (U : Ut) : Ut := { U with sent := [] }
theorem Ut.quit_ok {U : Ut} (h : U.ok) : U.quit.ok := ⟨h.c1, h.c2, h.d0, h.d1, h.lcr, h.mcr, h.scr, h.wanted, fun x hx => by cases hx⟩
theorem sent_any (H : UtIn w b q sv U) : Calls Try.prog 32 #[.pointer (some ⟨b, 0, none⟩)] w fun e w' => e = .returned sv ∧ UtIn w' b q (.slice none 0 0) U.quit ∧ w'.ownsRow 0 5 1 sv U.sent.length (bytesV U.sent) ∧ Keeps (fun k => k = b ∨ k = q) w w' := by
  obtain ⟨-, -, -, -, -, -, -, -, -, -, k10, kf, kl⟩ := H.facts
  obtain ⟨a, c, rfl⟩ := row_len H.sent
  have hne : ∀ j, j ≠ b → (w.setCell ⟨b, 10, none⟩ (.slice none 0 0)).heap[j]? = w.heap[j]? := fun j h => heap_set_other _ h
  obtain ⟨s, r, hq⟩ := H.chan
  have H1 : UtIn (w.setCell ⟨b, 10, none⟩ (.slice none 0 0)) b q (.slice none 0 0) U.quit :=
    ⟨by rw [heap_set_map, H.obj]; rfl, ⟨s, r, by rw [hne q H.bq.symm]; exact hq⟩, World.ownsRow_nil _ _ _ _, Ut.quit_ok H.ok⟩
  have H2 := row_of_heap (w' := w.setCell ⟨b, 10, none⟩ (.slice none 0 0)) H.sent fun k hk => hne k fun e => H.bs (by rw [← e]; exact hk)
  have HH1 := Lib.hid H1
  have HH2 := Lib.hid H2
  clear H1 H2 hne hq H
  go_enter Try.func32, Try.ntmps32
  go_wp2_with fail
  go_ret
  exact ⟨rfl, HH1.out, HH2.out, (Keeps.refl _ _).setCell (.inl (.inl rfl)) _⟩
theorem sent_nil (w : World) : Calls Try.prog 32 #[.pointer none] w fun e w' => e = .returned (.slice none 0 0) ∧ w = w' := by
  go_enter Try.func32, Try.ntmps32
  go_wp2_with fail
  go_ret
  exact ⟨rfl, rfl⟩
end
end Go.Proofs.Ytojmpdddfnkffaa.Uart

/- uart: a new one; a register is written. -/
namespace Go.Proofs.Ytojmpdddfnkffaa.Uart
open Go.RowKit Go.Conc
set_option linter.unusedVariables false

def Ut.new : Ut := ⟨[], false, false, false, 0, 0, 0, 0, 0, 0, []⟩
theorem Ut.new_ok : Ut.new.ok := ⟨by decide, (fun x hx => by cases hx), by decide, by decide, by decide, by decide, by decide, by decide, (fun x hx => by cases hx)⟩
theorem bytes8 : ∃ i, Try.prog.info? 5 = some i ∧ i.bytes = 1 := by
  have h : (Try.prog.info? 5).map (·.bytes) = some 1 := by kernel_rfl
  obtain ⟨i, hi, hb⟩ := Option.map_eq_some_iff.1 h
  exact ⟨i, hi, hb⟩
theorem mk16 (w : World) : (Instr.makeChan 120 (.int .i64 16)).run Try.prog w = .ok (.chan (some w.heap.size)) (w.alloc (.chan 16 #[] false 0 0 false)) := by
  obtain ⟨i, hi, hb⟩ := bytes8
  simpa using run_makeChan (P := Try.prog) (w := w) Try.underlying120 hi .i64 16 (by omega) (by rw [hb]; omega)
theorem new_any (w : World) : Calls Try.prog 37 #[] w fun e w' => ∃ b q, e = .returned (.pointer (some ⟨b, 0, none⟩)) ∧ UtIn w' b q (.slice none 0 0) Ut.new ∧ w.heap.size ≤ b ∧ w.heap.size ≤ q ∧ Below w.heap.size w w' := by
  have hmk := mk16
  go_enter Try.func37, Try.ntmps37
  go_wp2_with fail
  go_ret
  refine ⟨w.heap.size + 1, w.heap.size, rfl, ⟨?_, ⟨0, 0, ?_⟩, World.ownsRow_nil _ _ _ _, Ut.new_ok⟩, by omega, Nat.le_refl _, ((Below.refl _ _).alloc (Nat.le_refl _) _).alloc (by simp) _⟩
  · have := heap_new (w.alloc (.chan 16 #[] false 0 0 false)) (.cells (Ut.new.cells w.heap.size (.slice none 0 0)).toArray 123)
    rw [World.size_alloc] at this
    exact this
  · exact heap_alloc_lt (heap_new w _)
end Go.Proofs.Ytojmpdddfnkffaa.Uart

/- uart: a register is written. -/
namespace Go.Proofs.Ytojmpdddfnkffaa.Uart
open Go.RowKit Go.Conc
set_option linter.unusedVariables false

def Ut.setD (U : Ut) (k v : Nat) : Ut := if k = 0 then { U with d0 := v } else { U with d1 := v }
def Ut.send (U : Ut) (v : Nat) : Ut := { U with sent := U.sent ++ [v], empty := true }
def Ut.want (U : Ut) (v : Nat) : Ut := { U with empty := U.empty || (v / 2 % 2 == 1 && U.wanted / 2 % 2 == 0), wanted := v % 16 }
def Ut.ctl (U : Ut) (v : Nat) : Ut := { U with on := v % 2 == 1, came := if ((v % 2 == 1) != U.on || v / 2 % 2 == 1) = true then [] else U.came }
def Ut.latch (U : Ut) : Bool := U.lcr / 128 % 2 == 1
def Ut.setLcr (U : Ut) (v : Nat) : Ut := { U with lcr := v }
def Ut.setMcr (U : Ut) (v : Nat) : Ut := { U with mcr := v }
def Ut.setScr (U : Ut) (v : Nat) : Ut := { U with scr := v }
def Ut.setOn (U : Ut) (x : Bool) : Ut := { U with on := x }
def Ut.setWanted (U : Ut) (v : Nat) : Ut := { U with wanted := v }
def Ut.setEmpty (U : Ut) (x : Bool) : Ut := { U with empty := x }
def Ut.flow (U : Ut) (L : List Nat) : Ut := { U with came := L }
def Ut.out (U : Ut) (reg : Int) (v : Nat) : Ut :=
  if reg < 0 ∨ 7 < reg then U
  else if reg < 2 ∧ U.latch = true then U.setD reg.toNat v
  else if reg = 0 then U.send v
  else if reg = 1 then U.want v
  else if reg = 2 then U.ctl v
  else if reg = 3 then U.setLcr v
  else if reg = 4 then U.setMcr (v % 32)
  else if reg = 7 then U.setScr v
  else U
def callErr (reg : Int) : Int := if reg < 0 ∨ 7 < reg then 1 else 0
def Went (w : World) (b q : Nat) (sv : Value) (U' : Ut) (w' : World) : Prop :=
  ∃ sv', UtIn w' b q sv' U' ∧ Keeps (Held b q sv) w w' ∧ ∀ k, sv'.ownBlock = some k → sv.ownBlock = some k ∨ w.heap.size ≤ k
section
variable {w w' : World} {b q : Nat} {sv : Value} {U : Ut}
theorem Went.of {U' : Ut} (H : UtIn w' b q sv U') (K : Keeps (Held b q sv) w w') : Went w b q sv U' w' := ⟨sv, H, K, fun k h => .inl h⟩
theorem UtIn.setD (H : UtIn w b q sv U) (k v : Nat) (hk : k < 2) (hv : v < 256) : UtIn (w.setCell ⟨b, 4 + k, none⟩ (.int .u8 (v : Nat))) b q sv (U.setD k v) := by
  have o := H.ok
  rcases (show k = 0 ∨ k = 1 by omega) with rfl | rfl
  · exact H.turn 4 _ rfl rfl rfl ⟨o.c1, o.c2, hv, o.d1, o.lcr, o.mcr, o.scr, o.wanted, o.s2⟩
  · exact H.turn 5 _ rfl rfl rfl ⟨o.c1, o.c2, o.d0, hv, o.lcr, o.mcr, o.scr, o.wanted, o.s2⟩
theorem UtIn.setLcr (H : UtIn w b q sv U) (v : Nat) (hv : v < 256) : UtIn (w.setCell ⟨b, 6, none⟩ (.int .u8 (v : Nat))) b q sv (U.setLcr v) := by
  have o := H.ok
  exact H.turn 6 _ rfl rfl rfl ⟨o.c1, o.c2, o.d0, o.d1, hv, o.mcr, o.scr, o.wanted, o.s2⟩
theorem UtIn.setMcr (H : UtIn w b q sv U) (v : Nat) (hv : v < 256) : UtIn (w.setCell ⟨b, 7, none⟩ (.int .u8 (v : Nat))) b q sv (U.setMcr v) := by
  have o := H.ok
  exact H.turn 7 _ rfl rfl rfl ⟨o.c1, o.c2, o.d0, o.d1, o.lcr, hv, o.scr, o.wanted, o.s2⟩
theorem UtIn.setScr (H : UtIn w b q sv U) (v : Nat) (hv : v < 256) : UtIn (w.setCell ⟨b, 8, none⟩ (.int .u8 (v : Nat))) b q sv (U.setScr v) := by
  have o := H.ok
  exact H.turn 8 _ rfl rfl rfl ⟨o.c1, o.c2, o.d0, o.d1, o.lcr, o.mcr, hv, o.wanted, o.s2⟩
theorem UtIn.setWanted (H : UtIn w b q sv U) (v : Nat) (hv : v < 256) : UtIn (w.setCell ⟨b, 9, none⟩ (.int .u8 (v : Nat))) b q sv (U.setWanted v) := by
  have o := H.ok
  exact H.turn 9 _ rfl rfl rfl ⟨o.c1, o.c2, o.d0, o.d1, o.lcr, o.mcr, o.scr, hv, o.s2⟩
theorem UtIn.setEmpty (H : UtIn w b q sv U) (x : Bool) : UtIn (w.setCell ⟨b, 3, none⟩ (.bool x)) b q sv (U.setEmpty x) := by
  have o := H.ok
  exact H.turn 3 _ rfl rfl rfl ⟨o.c1, o.c2, o.d0, o.d1, o.lcr, o.mcr, o.scr, o.wanted, o.s2⟩
theorem UtIn.setOn (H : UtIn w b q sv U) (x : Bool) : UtIn (w.setCell ⟨b, 2, none⟩ (.bool x)) b q sv (U.setOn x) := by
  have o := H.ok
  exact H.turn 2 _ rfl rfl rfl ⟨o.c1, o.c2, o.d0, o.d1, o.lcr, o.mcr, o.scr, o.wanted, o.s2⟩
theorem keeps_obj (w : World) (b q : Nat) (sv : Value) (k : Nat) (v : Value) : Keeps (Held b q sv) w (w.setCell ⟨b, k, none⟩ v) := (Keeps.refl _ _).setCell (.inl (.inl rfl)) _

set_option maxRecDepth 20000 in
theorem out_nil (w : World) (reg v : Int) : Calls Try.prog 77 #[.pointer none, .int .i64 reg, .int .u8 v] w fun e w' => e = .returned (.int .i64 1) ∧ w = w' := by
  go_enter Try.func77, Try.ntmps77
  go_wp2_with fail
  go_ret
  exact ⟨rfl, rfl⟩
/-- A new block of one cell. -/
theorem one_new (w : World) (T : TypeId) (x : Value) : ∀ (j : Nat) (u : Value), [x][j]? = some u → (w.alloc (.cells #[x] T)).cell? ((⟨w.heap.size, 0, none⟩ : Addr).add j) = some u := by
  intro j u h
  have hj : j = 0 := by
    have := (List.getElem?_eq_some_iff.1 h).1
    simp at this; exact this
  subst hj
  rw [Go.WideShapes.add_plain, Nat.add_zero, cell_at (heap_new w _)]
  simpa using h
theorem info8 : (Try.prog.info? 5).map (fun i => (i.zero, i.size, i.bytes)) = some (some (.int .u8 0), 1, 1) := by kernel_rfl
section
variable {w1 : World} {o : Obj} {v' : Value}
theorem send_keeps (H : UtIn w b q sv U) (hg : (w.alloc o).grownBy w1 sv.ownBlock) : Keeps (Held b q sv) w w1 :=
  ((Keeps.refl _ w).alloc o).trans ⟨hg.os, hg.tape, hg.output, hg.size, fun k hk hn => hg.block k hk fun e => hn (.inr (.inr e.symm))⟩
theorem send_block (H : UtIn w b q sv U) (hg : (w.alloc o).grownBy w1 sv.ownBlock) {k : Nat} (hk : k < w.heap.size) (hn : sv.ownBlock ≠ some k) : w1.heap[k]? = w.heap[k]? := by
  rw [hg.block k (by simp; omega) (fun e => hn e.symm), Below.heap_alloc _ _ _ hk]
theorem send_facts (H : UtIn w b q sv U) (hg : (w.alloc o).grownBy w1 sv.ownBlock) : w1.cell? ⟨b, 10, none⟩ = some sv ∧ w1.cell? ⟨b, 3, none⟩ = some (.bool U.empty) ∧ (∀ k, w1.frozen? ⟨b, k, none⟩ = false) ∧ b < w1.heap.size := by
  have h : w1.heap[b]? = some (.cells (U.cells q sv).toArray 123) := (send_block H hg (H.lt (.inl rfl)) H.bs).trans H.obj
  exact ⟨by rw [cell_at h]; rfl, by rw [cell_at h]; rfl, fun k => free_at h, heap_lt h⟩
theorem send_end (H : UtIn w b q sv U) (v : Nat) (hv : v < 256) (hown : w1.ownsRow 0 5 1 v' (U.sent.length + 1) (bytesV U.sent ++ [.int .u8 (v : Nat)])) (hg : (w.alloc o).grownBy w1 sv.ownBlock)
    (hat : v'.ownBlock = sv.ownBlock ∨ v'.ownBlock = some (w.alloc o).heap.size) : Went w b q sv (U.send v) ((w1.setCell ⟨b, 10, none⟩ v').setCell ⟨b, 3, none⟩ (.bool true)) := by
  have h : w1.heap[b]? = some (.cells (U.cells q sv).toArray 123) := (send_block H hg (H.lt (.inl rfl)) H.bs).trans H.obj
  obtain ⟨s, r, hq⟩ := H.chan
  have hne : ∀ j, j ≠ b → ((w1.setCell ⟨b, 10, none⟩ v').setCell ⟨b, 3, none⟩ (.bool true)).heap[j]? = w1.heap[j]? := fun j h => by rw [heap_set_other _ h, heap_set_other _ h]
  have hbl := H.lt (.inl rfl)
  have hvb : v'.ownBlock ≠ some b := by
    rcases hat with e | e
    · rw [e]; exact H.bs
    · rw [e]; intro e2; injection e2 with e2; simp at e2; omega
  refine ⟨v', ⟨?_, ⟨s, r, ?_⟩, ?_, ?_⟩, ((send_keeps H hg).setCell (.inl (.inl rfl)) _).setCell (.inl (.inl rfl)) _, fun k hk => ?_⟩
  · rw [heap_set_map, heap_set_map, h]; rfl
  · rw [hne q H.bq.symm, send_block H hg (H.lt (.inr (.inl rfl))) H.qs]; exact hq
  · have hr : w1.ownsRow 0 5 1 v' (U.send v).sent.length (bytesV (U.send v).sent) := by
      show w1.ownsRow 0 5 1 v' (U.sent ++ [v]).length (bytesV (U.sent ++ [v]))
      rw [List.length_append, bytesV_snoc]; exact hown
    exact row_of_heap hr fun k hk => hne k fun e => hvb (by rw [← e]; exact hk)
  · have o := H.ok
    exact ⟨o.c1, o.c2, o.d0, o.d1, o.lcr, o.mcr, o.scr, o.wanted, fun x hx => by
      rcases List.mem_append.1 hx with h | h
      · exact o.s2 x h
      · simp only [List.mem_singleton] at h; omega⟩
  · rcases hat with e | e
    · exact .inl (by rw [← e]; exact hk)
    · right
      rw [e] at hk
      injection hk with hk
      simp at hk; omega
end
theorem out_bad (reg v : Int) (h : reg < 0 ∨ 7 < reg) : Calls Try.prog 77 #[.pointer (some ⟨b, 0, none⟩), .int .i64 reg, .int .u8 v] w fun e w' => e = .returned (.int .i64 1) ∧ w = w' := by
  by_cases h0 : reg < 0
  · clear h
    go_enter Try.func77, Try.ntmps77
    go_wp2_with fail
    go_ret
    exact ⟨rfl, rfl⟩
  · have h7 : 7 < reg := by omega
    have g0 : ¬ reg < 0 := h0
    clear h
    go_enter Try.func77, Try.ntmps77
    go_wp2_with fail
    go_ret
    exact ⟨rfl, rfl⟩
set_option maxHeartbeats 2000000 in
theorem out_d (H : UtIn w b q sv U) (k v : Nat) (hk : k < 2) (hv : v < 256) (hl : U.latch = true) :
    Calls Try.prog 77 #[.pointer (some ⟨b, 0, none⟩), .int .i64 (k : Nat), .int .u8 (v : Nat)] w fun e w' => e = .returned (.int .i64 0) ∧ Went w b q sv (U.setD k v) w' := by
  obtain ⟨-, -, -, -, k4, k5, k6, -, -, -, -, kf, kl⟩ := H.facts
  have hb := t128 U.lcr H.ok.lcr
  rw [show (U.lcr / 128 % 2 == 1) = true from hl] at hb
  have HH := Lib.hid (H.setD k v hk hv)
  clear H hl
  rcases (show k = 0 ∨ k = 1 by omega) with rfl | rfl
  all_goals
    go_enter Try.func77, Try.ntmps77
    go_wp2_with fail
    go_ret
    exact ⟨rfl, Went.of HH.out (keeps_obj w b q sv _ _)⟩
theorem not_bit : ∀ x : Fin 256, (255 - x.val).testBit 1 = (x.val / 2 % 2 == 0) := by decide +kernel
theorem two_bit : ∀ x : Fin 256, (x.val &&& 2 != 0) = x.val.testBit 1 := by decide +kernel
theorem new_want (v t : Nat) (hv : v < 256) (ht : t < 256) : (bits .and .u8 (bits .andNot .u8 (v : Int) (t : Int)) 2 != 0) = (v / 2 % 2 == 1 && t / 2 % 2 == 0) := by
  have e1 : bits .andNot .u8 (v : Int) (t : Int) = ((v &&& (255 - t) : Nat) : Int) := u8_andNot_nat v t hv ht
  have hlt : v &&& (255 - t) < 256 := Nat.lt_of_le_of_lt Nat.and_le_left hv
  have e2 : bits .and .u8 ((v &&& (255 - t) : Nat) : Int) 2 = (((v &&& (255 - t)) &&& 2 : Nat) : Int) := u8_and_nat _ 2 hlt (by decide)
  have e3 : ((((v &&& (255 - t)) &&& 2 : Nat) : Int) != 0) = (((v &&& (255 - t)) &&& 2) != 0) := by
    rw [Bool.eq_iff_iff]; simp
  rw [e1, e2, e3]
  have := two_bit ⟨_, hlt⟩
  simp only at this
  rw [this, Nat.testBit_and, not_bit ⟨t, ht⟩, Nat.testBit_eq_decide_div_mod_eq]
  simp
  rfl
set_option maxHeartbeats 4000000 in
theorem out_0 (H : UtIn w b q sv U) (v : Nat) (hv : v < 256) (hl : U.latch = false) (hL : U.sent.length + 1 ≤ 140737488355328) :
    Calls Try.prog 77 #[.pointer (some ⟨b, 0, none⟩), .int .i64 0, .int .u8 (v : Nat)] w fun e w' => e = .returned (.int .i64 0) ∧ Went w b q sv (U.send v) w' := by
  obtain ⟨-, -, -, k3, -, -, k6, -, -, -, k10, kf, kl⟩ := H.facts
  have hb := t128 U.lcr H.ok.lcr
  rw [show (U.lcr / 128 % 2 == 1) = false from hl] at hb
  obtain ⟨i0, hi, hz0, hz1, hz2⟩ := info_parts info8
  have hown := H.sent
  obtain ⟨a, c, rfl⟩ := row_len hown
  have HH := Lib.hid H
  have HOWN := Lib.hid hown
  have HL := Lib.hid hL
  have hc1 := Lib.hid (one_new w 5 (.int .u8 (v : Nat)))
  clear H hown hl hL
  go_enter Try.func77, Try.ntmps77
  go_wp2_with (at_builtin; (refine wpList_append_own_at _ rfl _ _ 30 rfl 0 5 i0 (.int .u8 0) 1 1 Try.underlying30 hi hz0 hz1 hz2 rfl (by decide) _ _ _ rfl (HOWN.out.alloc _) ⟨w.heap.size, 0, none⟩ 1 1 [.int .u8 (v : Nat)] rfl rfl hc1.out (fun u hu => by rw [List.mem_singleton.1 hu]; rfl) (by unfold maxLen; have := HL.out; omega) (by have := HL.out; omega) (Nat.zero_le _) ?_); intro v' w1' hown1 hgrow1 _ hat; obtain ⟨a', c', rfl⟩ := row_len hown1; have hcl := Lib.hid (send_end HH.out v hv hown1 hgrow1 hat); obtain ⟨f10, f3, ff, fl⟩ := send_facts HH.out hgrow1; clear hown1 hgrow1 hat)
  go_ret
  exact ⟨rfl, hcl.out⟩
set_option maxHeartbeats 2000000 in
theorem out_1 (H : UtIn w b q sv U) (v : Nat) (hv : v < 256) (hl : U.latch = false) :
    Calls Try.prog 77 #[.pointer (some ⟨b, 0, none⟩), .int .i64 1, .int .u8 (v : Nat)] w fun e w' => e = .returned (.int .i64 0) ∧ Went w b q sv (U.want v) w' := by
  obtain ⟨-, -, -, k3, -, -, k6, -, -, k9, -, kf, kl⟩ := H.facts
  have hb := t128 U.lcr H.ok.lcr
  rw [show (U.lcr / 128 % 2 == 1) = false from hl] at hb
  have hn := new_want v U.wanted hv H.ok.wanted
  have hm := m15 v hv
  have HH := Lib.hid ((H.setEmpty (U.empty || (v / 2 % 2 == 1 && U.wanted / 2 % 2 == 0))).setWanted (v % 16) (by omega))
  have HE := Lib.hid (show (U.setEmpty (U.empty || (v / 2 % 2 == 1 && U.wanted / 2 % 2 == 0))).setWanted (v % 16) = U.want v from rfl)
  rw [HE.out] at HH
  generalize (v / 2 % 2 == 1 && U.wanted / 2 % 2 == 0) = c at *
  generalize v % 16 = y at *
  generalize U.want v = U' at *
  clear H hl HE
  cases he : U.empty
  all_goals
    rw [he] at HH k3
    clear he
    go_enter Try.func77, Try.ntmps77
    go_wp2_with fail
    go_ret
    exact ⟨rfl, Went.of HH.out ((keeps_obj w b q sv _ _).setCell (.inl (.inl rfl)) _)⟩
def chanLen (w : World) (q : Nat) : Nat := match w.heap[q]? with | some (.chan _ buf _ _ _ _) => buf.size | _ => 0
theorem UtIn.len (H : UtIn w b q sv U) : chanLen w q = U.came.length := by
  obtain ⟨s, r, hq⟩ := H.chan
  unfold chanLen
  rw [hq]; simp [bytesV]
set_option maxHeartbeats 4000000 in
theorem out_2 (H : UtIn w b q sv U) (v : Nat) (hv : v < 256) :
    Calls Try.prog 77 #[.pointer (some ⟨b, 0, none⟩), .int .i64 2, .int .u8 (v : Nat)] w fun e w' => e = .returned (.int .i64 0) ∧ Went w b q sv (U.ctl v) w' := by
  obtain ⟨-, -, k2, -, -, -, k6, -, -, -, -, kf, kl⟩ := H.facts
  have hb := t128 U.lcr H.ok.lcr
  have h1 := t1 v hv
  have h2 := t2 v hv
  have hU : U.ctl v = (U.flow (if ((v % 2 == 1) != U.on || v / 2 % 2 == 1) = true then [] else U.came)).setOn (v % 2 == 1) := rfl
  generalize (U.lcr / 128 % 2 == 1) = c at hb
  generalize (v % 2 == 1) = c1 at *
  generalize (v / 2 % 2 == 1) = c2 at *
  generalize U.ctl v = U' at *
  generalize ho : U.on = c0 at *
  have HH := Lib.hid H
  have HO := Lib.hid ho
  clear H ho
  by_cases hc : ((c1 != c0) || c2) = true
  · rw [if_pos hc] at hU
    have HU := Lib.hid hU
    clear hU
    cases c1 <;> cases c0 <;> cases c2
    all_goals (try (exfalso; simp at hc; done))
    all_goals
      clear hc
      have HL := Lib.hid (HH.out.len)
      go_enter Try.func77, Try.ntmps77
      go_wp2_with fail
      go_loopw [9] (fun m wr => ∃ (x : Bool) (L : List Nat), m = .bool x ∧ (x = false → L = []) ∧ UtIn wr b q sv (U.flow L) ∧ Keeps (Held b q sv) w wr) (fun m wr => 2 * chanLen wr q + (match m with | .bool true => 1 | _ => 0))
      case atStart => exact ⟨true, U.came, rfl, (fun h => by cases h), HH.out, Keeps.refl _ _⟩
      case round =>
        obtain ⟨x, L, rfl, hx, Hr, K⟩ := hrel
        cases x
        · have hL := hx rfl
          subst hL
          obtain ⟨-, -, r2, -, -, -, -, -, -, -, -, rf, rl⟩ := Hr.facts
          have HR := Lib.hid Hr
          have HK := Lib.hid K
          clear Hr K hx
          go_wp2_with fail
          go_ret
          exact ⟨rfl, Went.of (by rw [HU.out]; exact HR.out.setOn _) (HK.out.setCell (.inl (.inl rfl)) _)⟩
        · have HLn := Lib.hid Hr.len
          cases L with
          | nil =>
            have HK := Lib.hid K
            clear hx K
            go_wp2_with fail
            refine (next_none Hr rfl).mono ?_
            rintro e w1 ⟨rfl, rfl⟩
            go_wp2_with fail
            go_roundw
            case rel => exact ⟨false, [], rfl, fun _ => rfl, Hr, HK.out⟩
            case measure => simp
          | cons y l =>
            have HK := Lib.hid K
            clear hx K
            go_wp2_with fail
            refine (next_some Hr y l rfl).mono ?_
            rintro e w1 ⟨rfl, H1, K1⟩
            have e1 := HLn.out
            have e2 := H1.len
            have E1 := Lib.hid e1
            have E2 := Lib.hid e2
            clear e1 e2
            have H1 : UtIn w1 b q sv (U.flow l) := H1
            go_wp2_with fail
            go_roundw
            case rel => exact ⟨true, l, rfl, (fun h => by cases h), H1, HK.out.andThen K1 fun i _ e => by rw [e]; exact .inr (.inl rfl)⟩
            case measure =>
              rw [E1.out, E2.out]
              show 2 * l.length + 1 < 2 * (l.length + 1) + 1
              omega
  · rw [if_neg hc] at hU
    have HU := Lib.hid hU
    have e1 : c1 = c0 ∧ c2 = false := by cases c1 <;> cases c0 <;> cases c2 <;> simp_all
    obtain ⟨rfl, rfl⟩ := e1
    clear hU hc
    cases c1
    all_goals
      go_enter Try.func77, Try.ntmps77
      go_wp2_with fail
      go_ret
      refine ⟨rfl, Went.of (by rw [HU.out]; exact HH.out.setOn _) (keeps_obj w b q sv _ _)⟩
set_option maxHeartbeats 2000000 in
theorem out_3 (H : UtIn w b q sv U) (v : Nat) (hv : v < 256) :
    Calls Try.prog 77 #[.pointer (some ⟨b, 0, none⟩), .int .i64 3, .int .u8 (v : Nat)] w fun e w' => e = .returned (.int .i64 0) ∧ Went w b q sv (U.setLcr v) w' := by
  obtain ⟨-, -, -, -, -, -, k6, -, -, -, -, kf, kl⟩ := H.facts
  have hb := t128 U.lcr H.ok.lcr
  have HH := Lib.hid (H.setLcr v hv)
  generalize (U.lcr / 128 % 2 == 1) = c at hb
  clear H
  go_enter Try.func77, Try.ntmps77
  go_wp2_with fail
  go_ret
  exact ⟨rfl, Went.of HH.out (keeps_obj w b q sv _ _)⟩
set_option maxHeartbeats 2000000 in
theorem out_4 (H : UtIn w b q sv U) (v : Nat) (hv : v < 256) :
    Calls Try.prog 77 #[.pointer (some ⟨b, 0, none⟩), .int .i64 4, .int .u8 (v : Nat)] w fun e w' => e = .returned (.int .i64 0) ∧ Went w b q sv (U.setMcr (v % 32)) w' := by
  obtain ⟨-, -, -, -, -, -, k6, k7, -, -, -, kf, kl⟩ := H.facts
  have hb := t128 U.lcr H.ok.lcr
  have hm := m31 v hv
  have HH := Lib.hid (H.setMcr (v % 32) (by omega))
  generalize (U.lcr / 128 % 2 == 1) = c at hb
  generalize v % 32 = y at *
  clear H
  go_enter Try.func77, Try.ntmps77
  go_wp2_with fail
  go_ret
  exact ⟨rfl, Went.of HH.out (keeps_obj w b q sv _ _)⟩
set_option maxHeartbeats 2000000 in
theorem out_7 (H : UtIn w b q sv U) (v : Nat) (hv : v < 256) :
    Calls Try.prog 77 #[.pointer (some ⟨b, 0, none⟩), .int .i64 7, .int .u8 (v : Nat)] w fun e w' => e = .returned (.int .i64 0) ∧ Went w b q sv (U.setScr v) w' := by
  obtain ⟨-, -, -, -, -, -, k6, -, k8, -, -, kf, kl⟩ := H.facts
  have hb := t128 U.lcr H.ok.lcr
  have HH := Lib.hid (H.setScr v hv)
  generalize (U.lcr / 128 % 2 == 1) = c at hb
  clear H
  go_enter Try.func77, Try.ntmps77
  go_wp2_with fail
  go_ret
  exact ⟨rfl, Went.of HH.out (keeps_obj w b q sv _ _)⟩
set_option maxHeartbeats 2000000 in
theorem out_else (H : UtIn w b q sv U) (reg : Int) (hr : reg = 5 ∨ reg = 6) (v : Nat) :
    Calls Try.prog 77 #[.pointer (some ⟨b, 0, none⟩), .int .i64 reg, .int .u8 (v : Nat)] w fun e w' => e = .returned (.int .i64 0) ∧ Went w b q sv U w' := by
  obtain ⟨-, -, -, -, -, -, k6, -, -, -, -, kf, kl⟩ := H.facts
  have hb := t128 U.lcr H.ok.lcr
  have HH := Lib.hid H
  generalize (U.lcr / 128 % 2 == 1) = c at hb
  clear H
  rcases hr with rfl | rfl
  all_goals
    go_enter Try.func77, Try.ntmps77
    go_wp2_with fail
    go_ret
    exact ⟨rfl, Went.of HH.out (Keeps.refl _ _)⟩
end
end Go.Proofs.Ytojmpdddfnkffaa.Uart

