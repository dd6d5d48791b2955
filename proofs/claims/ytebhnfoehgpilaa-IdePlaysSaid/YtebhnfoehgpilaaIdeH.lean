/- ide: a byte of the data is taken, or given. -/
import Derived.Test.YtebhnfoehgpilaaIdeG
import Derived.Deep.AppendLies
import Derived.Deep.RegionLaw
namespace Go.Proofs.Ytebhnfoehgpilaa
open Go.RowKit
set_option linter.unusedVariables false

theorem room_fail (S : Dk) (e : Nat) : (S.fail e).room := fun h => absurd rfl h
theorem room_begin (S : Dk) (m : Nat) : (S.begin m).room := by
  unfold Dk.begin
  split
  · split <;> exact fun _ => (by show (0 : Nat) < 512; decide)
  · exact room_fail S 16
theorem room_fresh (S : Dk) : S.fresh.room := fun h => absurd rfl h
theorem room_command {S : Dk} (h : S.room) (c : Nat) : (S.command c).room := by
  rw [Dk.command_eq]
  (repeat' split)
  · exact h
  · exact room_fail _ _
  · exact room_begin _ _
  · exact room_fail _ _
  · exact room_begin _ _
  · exact fun _ => (by show (0 : Nat) < 512; decide)
  · exact fun h => absurd rfl h
  · exact room_fail _ _
theorem room_next (S : Dk) : S.next.room := by
  unfold Dk.next
  split
  · exact fun h => absurd rfl h
  · exact room_begin _ _
theorem room_put {S : Dk} (h : S.room) (b : Nat) : (S.putB b).room := by
  unfold Dk.putB
  split
  · split
    · rename_i h1; exact fun _ => h1
    · split
      · exact room_next _
      · exact room_fail _ _
  · exact h
theorem room_get {S : Dk} (h : S.room) : S.getB.room := by
  unfold Dk.getB
  split
  · split
    · rename_i h1; exact fun _ => h1
    · split
      · exact fun h => absurd rfl h
      · exact room_next _
  · exact h
theorem Dk.put1_place (S : Dk) (v : Nat) : (S.put1 v).place = S.place := rfl
theorem Dk.put1_n (S : Dk) (v : Nat) : (S.put1 v).n = S.n := rfl
theorem Dk.putB_full (S : Dk) (v : Nat) (hm : S.mode = 2) (hd : ¬ S.done + 1 < 512) (hp : (S.put1 v).place < (S.put1 v).n) : S.putB v = ({ (S.put1 v).write.next with mark := true } : Dk) := by
  rw [Dk.put1_place, Dk.put1_n] at hp
  unfold Dk.putB
  rw [if_pos hm, if_neg hd, if_pos hp]
theorem Dk.putB_gone (S : Dk) (v : Nat) (hm : S.mode = 2) (hd : ¬ S.done + 1 < 512) (hp : ¬ (S.put1 v).place < (S.put1 v).n) : S.putB v = (S.put1 v).fail 16 := by
  rw [Dk.put1_place, Dk.put1_n] at hp
  unfold Dk.putB
  rw [if_pos hm, if_neg hd, if_neg hp]
section
variable {w : World} {b : Nat} {ds lv : Value} {D : Dk}
set_option maxHeartbeats 1000000 in
theorem put_idle (H : IdeIn 56 w b ds lv D) (v : Int) (hm : D.mode ≠ 2) :
    Calls Try.prog 28 #[.pointer (some ⟨b, 0, none⟩), .int .u8 v] w fun e w' => e = .returned (.tuple #[]) ∧ w = w' := by
  obtain ⟨-, -, -, -, -, -, -, -, -, k9, k10, -, -, -, kf, klt⟩ := H.facts
  have g : (((D.mode : Nat) : Int) != 2) = true := by simp; omega
  clear hm
  go_enter Try.func28, Try.ntmps28
  go_wp2_with fail
  go_returns
  exact ⟨rfl, rfl⟩
theorem Dk.put1_eq (S : Dk) (b : Nat) : S.put1 b = (S.setBuf S.done b).setDone (S.done + 1) := rfl
theorem Dk.put1_ok {S : Dk} (h : S.ok) (b : Nat) (hb : b < 256) (hd : S.done < 512) : (S.put1 b).ok := { h with buf := upd_lt h.buf _ _ hb, done := (by show S.done + 1 ≤ 512; omega) }
theorem Dk.buf_ok {S : Dk} (h : S.ok) (k b : Nat) (hb : b < 256) : (S.setBuf k b).ok := { h with buf := upd_lt h.buf _ _ hb }
/-- The buffer is laid over a sector. -/
theorem laid_lt {d f : Nat → Nat} {o : Nat} (hd : ∀ i, d i < 256) (hf : ∀ i, f i < 256) (i : Nat) : laid d f o i < 256 := by
  unfold laid
  split
  · exact hf _
  · exact hd _
theorem Dk.flushAt_r (S : Dk) (o : Nat) : (S.flushAt o).r = S.r := rfl
theorem Dk.flushAt_log (S : Dk) (o : Nat) : (S.flushAt o).log = S.log := rfl
theorem Dk.put1_log (S : Dk) (v : Nat) : (S.put1 v).log = S.log := rfl
theorem Dk.flushAt_n (S : Dk) (o : Nat) : (S.flushAt o).n = S.n := rfl
theorem Dk.flushAt_place (S : Dk) (o : Nat) : (S.flushAt o).place = S.place := by unfold Dk.place; rw [Dk.flushAt_r]
theorem Dk.flushAt_ok {S : Dk} (h : S.ok) (o : Nat) : (S.flushAt o).ok := { h with d := laid_lt h.d h.buf }
theorem log_lt {L : List Nat} {p : Nat} (h : ∀ x ∈ L, x < 64) (hp : p < 64) : ∀ x ∈ L ++ [p], x < 64 := fun x hx => by
  rw [List.mem_append, List.mem_singleton] at hx
  rcases hx with hx | hx
  · exact h x hx
  · omega
theorem Dk.logAt_ok {S : Dk} (h : S.ok) (p : Nat) (hp : p < 64) : (S.logAt p).ok := { h with log := log_lt h.log hp }
theorem news_one (w : World) (T : TypeId) (x : Int) : ∀ j u, [Value.int .i64 x][j]? = some u → (w.alloc (.cells #[.int .i64 x] T)).cell? ((⟨w.heap.size, 0, none⟩ : Addr).add j) = some u := fun j u h => by
  match j with
  | 0 =>
    have e : u = .int .i64 x := by simpa using h.symm
    rw [e, Go.WideShapes.add_plain, cell_at (heap_new w _)]; rfl
  | j + 1 => simp at h
theorem one_cell_int (x : Int) : ∀ u ∈ [Value.int .i64 x], u.oneCell' = true := fun u h => by
  have e : u = .int .i64 x := by simpa using h
  rw [e]; rfl
theorem c4_alloc {w : World} {b k : Nat} {v : Value} {o : Obj} (h : b < w.heap.size) (c : w.cell? ⟨b, k, none⟩ = some v) : (w.alloc o).cell? ⟨b, k, none⟩ = some v := (World.cell?_alloc_lt w _ _ h).trans c
theorem infoInt : (Try.prog.info? 3).map (fun i => (i.zero, i.size, i.bytes)) = some (some (.int .i64 0), 1, 8) := by kernel_rfl
theorem append_log {T : TypeId} {w4 : World} {b : Nat} {ds lv : Value} {S : Dk} (H : IdeIn T w4 b ds lv S) (p : Nat) (hp : p < 64) (hL : S.log.length < 17592186044416) (ty : TypeId) :
    ∃ v6 w6, (Builtin.append_ #[38, 38] ty #[lv, .slice (some ⟨w4.heap.size, 0, none⟩) 1 1]).run Try.prog (w4.alloc (.cells #[.int .i64 (p : Nat)] 3)) = .ok v6 w6 ∧ w6.cell? ⟨b, 525, none⟩ = some lv ∧
      (∀ k, w6.frozen? ⟨b, k, none⟩ = false) ∧ b < w6.heap.size ∧ Hid (IdeIn T (w6.setCell ⟨b, 525, none⟩ v6) b ds v6 (S.logAt p)) ∧ Hid (Keeps (Held b ds lv) w4 (w6.setCell ⟨b, 525, none⟩ v6) ∧ ∀ k, (v6 : Value).ownBlock = some k → lv.ownBlock = some k ∨ w4.heap.size ≤ k) := by
  obtain ⟨i0, hi, hz0, hz1, hz2⟩ := info_parts infoInt
  obtain ⟨v6, w6, hrun, hown, hgrow, _, hat⟩ := run_append_own_at (P := Try.prog) (w := w4.alloc (.cells #[.int .i64 (p : Nat)] 3)) 0 38 ty 3 i0 (.int .i64 0) 1 8 Try.underlying38 hi hz0 hz1 hz2 (by rfl) (by decide)
    lv S.log.length (S.log.map fun p => Value.int .i64 (p : Nat)) (H.log.alloc _) ⟨w4.heap.size, 0, none⟩ 1 1 [.int .i64 (p : Nat)] (by rfl) (news_one w4 _ _) (one_cell_int _) (by unfold maxLen; omega) (by omega) (Nat.zero_le _)
  have hsz : (w4.alloc (.cells #[.int .i64 (p : Nat)] 3)).heap.size = w4.heap.size + 1 := by simp
  have hbl := heap_lt H.obj
  have hb6 : w6.heap[b]? = some (.cells (S.cells ds lv) T) := (hgrow.block b (by omega) (fun e => H.d2 e.symm)).trans (heap_alloc_lt H.obj)
  have hvb : v6.ownBlock ≠ some b := fun e => by
    rcases hat with h | h
    · exact H.d2 (by rw [← h]; exact e)
    · rw [h] at e; cases e; omega
  have hvd : ∀ k, ds.ownBlock = some k → v6.ownBlock ≠ some k := fun k hk e => by
    rcases hat with h | h
    · exact H.d3 k hk (by rw [← h]; exact e)
    · rw [h] at e; cases e
      have := H.disk.lt hk
      omega
  refine ⟨v6, w6, hrun, by rw [cell_at hb6, S.at ds lv 525 (by decide)]; rfl, fun k => free_at hb6, heap_lt hb6, ?_⟩
  have ho : (w6.setCell ⟨b, 525, none⟩ v6).heap[b]? = some (.cells ((S.logAt p).cells ds v6) T) := by
    rw [heap_set_same v6 hb6, Dk.put_log S ds lv (S.log ++ [p]) v6]; rfl
  have hK : Keeps (Held b ds lv) w4 (w6.setCell ⟨b, 525, none⟩ v6) := by
    refine Keeps.setCell (S := Held b ds lv) (p := ⟨b, 525, none⟩) (show Keeps (Held b ds lv) w4 w6 from ⟨hgrow.os, hgrow.tape, hgrow.output, by have := hgrow.size; omega, fun k hk hn => ?_⟩) (Or.inl (Or.inl rfl)) _
    rw [hgrow.block k (by omega) (fun e => hn (Or.inr (Or.inr e.symm))), Below.heap_alloc _ _ _ hk]
  refine ⟨Lib.hid { obj := ho, disk := ?_, log := ?_, d1 := H.d1, d2 := hvb, d3 := hvd, ok := Dk.logAt_ok H.ok p hp }, Lib.hid ⟨hK, fun k hk => ?_⟩⟩
  · refine H.disk.of_heap fun k hk => ?_
    have hkl := H.disk.lt hk
    rw [Below.heap_setCell _ _ _ _ (fun e => H.d1 (by rw [hk, e])), hgrow.block k (by omega) (fun e => H.d3 k hk e.symm), Below.heap_alloc _ _ _ hkl]
  · have e1 : (S.logAt p).log.length = S.log.length + 1 := by show (S.log ++ [p]).length = _; simp
    have e2 : (S.logAt p).log.map (fun p => Value.int .i64 (p : Nat)) = S.log.map (fun p => Value.int .i64 (p : Nat)) ++ [.int .i64 (p : Nat)] := by show (S.log ++ [p]).map _ = _; simp
    rw [e1, e2]
    exact row_of_heap hown fun k hk => Below.heap_setCell _ _ _ _ (fun e => hvb (by rw [hk, e]))
  · rcases hat with h | h
    · exact .inl (by rw [← h]; exact hk)
    · rw [h] at hk; cases hk; exact .inr (by omega)
theorem row_slice {w : World} {B : Nat} {E : TypeId} {s n : Nat} {v : Value} {xs : List Value} (h : w.ownsRow B E s v n xs) : ∃ a m c, v = .slice a m c := by
  rcases h.2 with ⟨h, _⟩ | ⟨g, cap, cur, h, _⟩
  · exact ⟨_, _, _, h⟩
  · exact ⟨_, _, _, h⟩
/-- The number of a sector is appended, as a step of a region. -/
theorem step_append_log {ops : Array Oper} {o : Oper} {a : Act} {K : Act → World → Prop} {Q : Exit → Act → World → Prop} {E : Prop} {T : TypeId} {w4 : World} {b : Nat} {ds lv : Value} {S : Dk} (H : IdeIn T w4 b ds lv S) (p : Nat) (hp : p < 64) (hL : S.log.length < 17592186044416)
    (hgd : o.guard = none) (s x : Operand) (ho : o.op = .call { callee := .builtin .append, args := #[s, x], argTypes := #[38, 38] }) (hs : a.eval s = lv) (hx : a.eval x = .slice (some ⟨w4.heap.size, 0, none⟩) 1 1)
    (h : ∀ a6 n6 q6 w6, w6.cell? ⟨b, 525, none⟩ = some lv → (∀ k, w6.frozen? ⟨b, k, none⟩ = false) → b < w6.heap.size → Hid (IdeIn T (w6.setCell ⟨b, 525, none⟩ (.slice a6 n6 q6)) b ds (.slice a6 n6 q6) (S.logAt p)) → Hid (Keeps (Held b ds lv) w4 (w6.setCell ⟨b, 525, none⟩ (.slice a6 n6 q6)) ∧ ∀ k, (.slice a6 n6 q6 : Value).ownBlock = some k → lv.ownBlock = some k ∨ w4.heap.size ≤ k) → K (a.put o.dst (.slice a6 n6 q6)) w6) :
    if Region.wanted o (yielded ops a.tmps) = true then Oper.wp Try.prog o a (w4.alloc (.cells #[.int .i64 (p : Nat)] 3)) K Q else E := by
  have hw : Region.wanted o (yielded ops a.tmps) = true := by simp [Region.wanted, hgd]
  rw [if_pos hw]
  obtain ⟨v6, w6, hr, h1, h2, h3, h4, h5⟩ := append_log H p hp hL o.type
  unfold Oper.wp execOp
  simp only [ho, resolve, invoke, builtin, Sem.run_bind, Sem.run_pure, Result.andThen_ok, List.map_toArray, List.map_cons, List.map_nil, hs, hx, hr]
  obtain ⟨a6, n6, q6, rfl⟩ := row_slice h4.out.log
  exact h a6 n6 q6 w6 h1 h2 h3 h4 h5
theorem take_splice {cur : List Value} {m o : Nat} {d f : Nat → Nat} (h : cur.take m = bytesL m d) (ho : o + 512 ≤ m) :
    (cur.take o ++ bytesL 512 f ++ cur.drop (o + 512)).take m = bytesL m (laid d f o) := by
  have hlen : m ≤ cur.length := by
    have := congrArg List.length h
    rw [List.length_take, bytesL_len] at this
    omega
  have hb : (bytesL 512 f).length = 512 := bytesL_len _ _
  have hto : (cur.take o).length = o := by rw [List.length_take]; omega
  apply List.ext_getElem?
  intro j
  by_cases hj : j < m
  · rw [List.getElem?_take_of_lt hj, bytesL_at _ _ _ hj]
    by_cases h1 : j < o
    · rw [List.append_assoc, List.getElem?_append_left (by rw [hto]; exact h1), List.getElem?_take_of_lt h1]
      have e : cur[j]? = (bytesL m d)[j]? := by rw [← h, List.getElem?_take_of_lt hj]
      rw [e, bytesL_at _ _ _ hj]; unfold laid; rw [if_neg (by omega)]
    · by_cases h2 : j < o + 512
      · rw [List.append_assoc, List.getElem?_append_right (by rw [hto]; omega), List.getElem?_append_left (by rw [hb, hto]; omega), hto, bytesL_at _ _ _ (by omega)]; unfold laid; rw [if_pos (by omega)]
      · rw [List.getElem?_append_right (by rw [List.length_append, hb, hto]; omega), List.length_append, hb, hto, List.getElem?_drop, show o + 512 + (j - (o + 512)) = j by omega]
        have e : cur[j]? = (bytesL m d)[j]? := by rw [← h, List.getElem?_take_of_lt hj]
        rw [e, bytesL_at _ _ _ hj]; unfold laid; rw [if_neg (by omega)]
  · rw [List.getElem?_eq_none (by rw [List.length_take]; omega), bytesL_no _ _ _ (by omega)]
theorem copy_out {T : TypeId} {W : World} {S : Dk} (H : IdeIn T W b ds lv S) {o : Nat} (ho : o + 512 ≤ S.n * 512) {g cap : Nat} (hds : ds = .slice (some ⟨g, 0, none⟩) (S.n * 512) cap) :
    ∃ W2, (∀ ty, (Builtin.copy_ #[23, 23] ty #[.slice (some ⟨g, o, none⟩) 512 512, .slice (some ⟨b, 9, none⟩) 512 512]).run Try.prog W = .ok (.int .i64 512) W2) ∧ IdeIn T W2 b ds lv (S.flushAt o) ∧ Keeps (· = g) W W2 := by
  obtain ⟨g', cap', cur, hds', hg, hc, hcm, hsz, htk⟩ := H.disk.open (by omega)
  rw [hds] at hds'
  simp only [Value.slice.injEq, Option.some.injEq, Addr.mk.injEq, and_true, true_and] at hds'
  obtain ⟨rfl, rfl⟩ := hds'
  have hgb : b ≠ g := fun e => H.d1 (by rw [hds, ← e]; rfl)
  have hx : (bytesL 512 S.buf).length = 512 := bytesL_len _ _
  have hl : cur.toList.length = cur.size := Array.length_toList
  have K : Keeps (· = g) W (W.setRow g (cur.toList.take o ++ bytesL 512 S.buf ++ cur.toList.drop (o + 512)).toArray) := ⟨rfl, rfl, rfl, by simp [World.setRow], fun k hk hn => setRow_other W g k _ hn⟩
  have h := fun ty => run_copy_row (P := Try.prog) W 23 23 ty 5 g o 512 512 ⟨b, 9, none⟩ 512 512 cur 5 (bytesL 512 S.buf) Try.underlying23 size8 hg (by rw [bytesL_len]; rfl)
      (fun j v hv => by obtain ⟨hj, rfl⟩ := bytesL_some hv; rw [Go.WideShapes.add_plain]; exact H.buf j hj) (by rw [bytesL_len]; omega) (bytesL_one _ _)
  rw [bytesL_len] at h
  have hd : Bytes (W.setRow g (cur.toList.take o ++ bytesL 512 S.buf ++ cur.toList.drop (o + 512)).toArray) ds S.n (laid S.d S.buf o) := by
    refine ⟨by rw [bytesL_len]; omega, .inr ⟨g, cap, _, hds, Nat.zero_le _, setRow_heap _ _ _ _ _ _ hg, hc, by unfold maxLen; omega, ?_, ?_⟩⟩
    · simp only [List.size_toArray, List.length_append, List.length_take, List.length_drop, hx, hl]
      omega
    · rw [Nat.mul_one, List.toList_toArray]
      exact take_splice htk ho
  exact ⟨_, h, { obj := by rw [K.block b (heap_lt H.obj) hgb]; exact H.obj, disk := hd, log := row_of_heap H.log fun k hk => K.block k (H.log.lt k hk).2 (fun e => H.d3 g (by rw [hds]; rfl) (by rw [← e]; exact hk)), d1 := H.d1, d2 := H.d2, d3 := H.d3, ok := Dk.flushAt_ok H.ok o }, K⟩
set_option maxRecDepth 20000 in
set_option maxHeartbeats 2000000 in
theorem put_live (H : IdeIn 56 w b ds lv D) (v : Nat) (hv : v < 256) (hm : D.mode = 2) (hd : D.done < 512) (hL : D.log.length < 17592186044416) :
    Calls Try.prog 28 #[.pointer (some ⟨b, 0, none⟩), .int .u8 v] w fun e w' => e = .returned (.tuple #[]) ∧ ∃ lv', IdeIn 56 w' b ds lv' (D.putB v) ∧ Keeps (Held b ds lv) w w' ∧ ∀ k, lv'.ownBlock = some k → lv.ownBlock = some k ∨ w.heap.size ≤ k := by
  obtain ⟨-, -, -, -, -, -, -, -, -, k9, k10, -, -, -, kf, klt⟩ := H.facts
  have kb := H.buf D.done hd
  rw [hm] at k10
  have q0 : (0 : Int) ≤ (D.done : Int) := by omega
  have q1 : (D.done : Int) < 512 := by omega
  have E0 := turned H (Blk.drew (Blk.buf (Blk.of H) D.done v _ rfl hd)) ((Keeps.refl _ w).setOne _ _).drew (Dk.buf_ok H.ok _ v hv) rfl rfl rfl
  have HE := Lib.hid E0
  clear E0
  have HM := Lib.hid hm
  have HOK := Lib.hid H.ok
  have HLL := Lib.hid hL
  clear hL
  clear H hm
  generalize D.buf D.done = u at *
  obtain ⟨dn, hdn⟩ : ∃ dn, dn = D.done := ⟨_, rfl⟩
  rw [← hdn] at k9 kb q0 q1 HE
  have HDN := Lib.hid hdn
  clear hdn hd
  go_enter Try.func28, Try.ntmps28
  go_wp2_with fail
  go_region
  have E := HE.out
  clear HE k9 k10 kf klt kb
  generalize (w.setCell ⟨b, 9 + dn, none⟩ (.int .u8 (v : Nat))).drew = w1 at *
  obtain ⟨H1, K1⟩ := E
  have B2 := Blk.done (Blk.of H1) (dn + 1) ((dn : Int) + 1) (by omega)
  obtain ⟨-, -, -, -, -, -, -, -, -, k9, k10, -, -, -, kf, klt⟩ := H1.facts
  have k9' : w1.cell? ⟨b, 521, none⟩ = some (.int .i64 (dn : Nat)) := by rw [k9, HDN.out]; rfl
  have K2 : Keeps (· = b) w (w1.setCell ⟨b, 521, none⟩ (.int .i64 ((dn : Int) + 1))) := K1.setOne _ _
  have e1 : (D.setBuf dn v).setDone (dn + 1) = D.put1 v := by rw [HDN.out]; rfl
  rw [e1] at B2
  have HH1 := Lib.hid H1
  have HB2 := Lib.hid B2
  clear H1 B2 k9 k10 K1 e1
  by_cases hlt : dn + 1 < 512
  · have g : (dn : Int) + 1 < 512 := by omega
    go_wp2_with fail
    go_returns
    have e : D.putB v = D.put1 v := by unfold Dk.putB; rw [if_pos HM.out, if_pos (by rw [← HDN.out]; exact hlt)]
    rw [e]
    have E := turned HH1.out HB2.out ((Keeps.refl _ w1).setOne _ _) (Dk.put1_ok HOK.out v hv (by rw [← HDN.out]; omega)) rfl rfl rfl
    exact ⟨rfl, lv, E.1, K2.mono fun k _ h => .inl h, fun k h => .inl h⟩
  · have hd2 : dn = 511 := by omega
    have E2 := turned HH1.out HB2.out ((Keeps.refl _ w1).setOne _ _) (Dk.put1_ok HOK.out v hv (by rw [← HDN.out]; omega)) rfl rfl rfl
    have HD2 := Lib.hid hd2
    clear hd2
    go_upto_region 3 with (fail)
    clear HH1 HB2 k9' kf klt hlt
    have HK2 := Lib.hid K2
    clear K2
    generalize w1.setCell ⟨b, 521, none⟩ (.int .i64 ((dn : Int) + 1)) = w2 at *
    obtain ⟨H2, -⟩ := E2
    obtain ⟨-, -, -, -, -, -, -, -, -, k9, k10, k11, -, k13, kf, klt⟩ := H2.facts
    have e9 : (D.put1 v).done = 512 := by show D.done + 1 = 512; rw [← HDN.out, HD2.out]
    rw [e9] at k9
    have k9' : w2.cell? ⟨b, 521, none⟩ = some (.int .i64 512) := k9
    clear e9 k9
    have HH2 := Lib.hid H2
    clear H2
    by_cases hp : (D.put1 v).place < (D.put1 v).n
    · have hn64 := HH2.out.ok.n
      obtain ⟨g, cap, cur, hds, hg, hc, hcm, hsz, htk⟩ := HH2.out.disk.open (by omega)
      have HS := Lib.hid (sector_yes HH2.out hp g cap hds hc)
      have hnil : ∀ w o, (binOp .eql 23 (.slice (some ⟨g, o, none⟩) 512 512) (.slice none 0 0)).run Try.prog w = .ok (.bool false) w := fun w o => Lib.run_eql_slice_nil w _ _ _ _ _ _ _ Try.underlying23
      have HDS := Lib.hid hds
      have HPP := Lib.hid hp
      clear hp hds hg hc hcm hsz htk hn64
      go_wp2_with fail
      refine HS.out.mono ?_
      rintro e w3 ⟨rfl, m, rfl⟩
      obtain ⟨W3, hcp, H3, K3⟩ := copy_out (HH2.out.drewN m) (o := (D.put1 v).place * 512) (by have := HPP.out; omega) HDS.out
      have HH3 := Lib.hid H3
      clear H3
      obtain ⟨o, ho⟩ : ∃ o, o = (D.put1 v).place * 512 := ⟨_, rfl⟩
      rw [← ho] at hcp HH3 ⊢
      have HO := Lib.hid ho
      clear ho
      go_upto_region 8 with (fail)
      have hpl : ((D.put1 v).flushAt o).place = (D.put1 v).place := Dk.flushAt_place _ _
      have hplt : (D.put1 v).place < 64 := by have := HPP.out; have := HH2.out.ok.n; omega
      have HPL := Lib.hid hpl
      have HPT := Lib.hid hplt
      have hll : ((D.put1 v).flushAt o).log.length < 17592186044416 := by rw [Dk.flushAt_log, Dk.put1_log]; exact HLL.out
      have HL2 := Lib.hid hll
      clear hll
      have c3 := HH3.out.facts.2.2.2.2.2.2.2.2.2.2.2.2.2.1
      clear hpl hplt k9' k10 k11 k13 kf klt hcp hnil
      go_region_law (first
        | (go_simp; refine (place_in (w := W3.drew) (HH3.out.drewN 1)).mono ?_; rintro e w4 ⟨rfl, m4, hw4⟩; have HH4 := Lib.hid (show IdeIn 56 w4 b ds lv ((D.put1 v).flushAt o) from by rw [hw4]; exact (HH3.out.drewN 1).drewN m4); have c4 := HH4.out.facts.2.2.2.2.2.2.2.2.2.2.2.2.2.1; have hb4 : b < w4.heap.size := HH4.out.facts.2.2.2.2.2.2.2.2.2.2.2.2.2.2.2; rw [HPL.out]; have HW4 := Lib.hid (show Keeps (Held b ds lv) W3 w4 from by rw [hw4]; exact ((Keeps.refl _ W3).drewN 1).drewN m4); clear hw4; dsimp only)
        | (refine step_append_log HH4.out (D.put1 v).place HPT.out HL2.out (by rfl) _ _ (by rfl) (by rfl) (by rfl) ?_; intro a6 n6 q6 w6 c6 f6 l6 H6 X6))
      all_goals
        have e6 : ((D.put1 v).flushAt o).logAt (D.put1 v).place = (D.put1 v).write := by rw [HO.out]; rfl
        have K5 : Keeps (Held b ds lv) w (w6.setCell ⟨b, 525, none⟩ (.slice a6 n6 q6)) := ((((HK2.out.drewN m).mono fun k _ h => Or.inl h).trans (K3.mono fun k _ h => Or.inr (Or.inl (by rw [h, HDS.out]; rfl)))).trans HW4.out).trans X6.out.1
        have N5 : ∀ k, (Value.slice a6 n6 q6).ownBlock = some k → lv.ownBlock = some k ∨ w.heap.size ≤ k := fun k h => (X6.out.2 k h).imp id (fun h => Nat.le_trans (Nat.le_trans HK2.out.size (Nat.le_trans K3.size HW4.out.size)) h)
        rw [e6] at H6
        have HK5 := Lib.hid K5
        have HN5 := Lib.hid N5
        clear X6 c6 f6 l6 c4 hb4 K5 N5 e6
        generalize w6.setCell ⟨b, 525, none⟩ (.slice a6 n6 q6) = w7 at *
        go_wp2_with fail
        refine (next_in H6.out).mono ?_
        rintro e w8 ⟨rfl, H8, K8⟩
        obtain ⟨-, -, -, -, -, -, -, -, -, -, -, j11, -, -, jf, jlt⟩ := H8.facts
        have HH8 := Lib.hid H8
        clear H8
        go_wp2_with fail
        go_end0
        have e : D.putB v = ({ (D.put1 v).write.next with mark := true } : Dk) := Dk.putB_full D v HM.out (by rw [← HDN.out, HD2.out]; decide) HPP.out
        rw [e]
        have E := turned HH8.out (Blk.mark (Blk.of HH8.out) true) ((Keeps.refl _ w8).setOne _ _) (Dk.marked_ok HH8.out.ok) rfl rfl rfl
        exact ⟨rfl, .slice a6 n6 q6, E.1, HK5.out.trans ((K8.trans E.2).mono fun k _ h => .inl h), HN5.out⟩
    · have HS := Lib.hid (sector_no HH2.out hp)
      have hnil : ∀ w, (binOp .eql 23 (.slice none 0 0) (.slice none 0 0)).run Try.prog w = .ok (.bool true) w := fun w => Lib.run_eql_slice_nil w _ _ _ _ _ _ _ Try.underlying23
      have HPP := Lib.hid hp
      clear hp
      go_wp2_with fail
      refine HS.out.mono ?_
      rintro e w3 ⟨rfl, m, rfl⟩
      go_wp2_with fail
      refine (fail_in (HH2.out.drewN m) 16 (by decide)).mono ?_
      rintro e w4 ⟨rfl, H4, K4⟩
      go_wp2_with fail
      go_returns
      have e : D.putB v = (D.put1 v).fail 16 := Dk.putB_gone D v HM.out (by rw [← HDN.out, HD2.out]; decide) HPP.out
      rw [e]
      exact ⟨rfl, lv, H4, ((HK2.out.drewN m).trans K4).mono fun k _ h => .inl h, fun k h => .inl h⟩
end
end Go.Proofs.Ytebhnfoehgpilaa
