/- tlb, in plain words: what a walk leaves; a keeper between its map and its row of keys. -/
import Derived.Test.YtknokiadbkgmaaaTlbB
namespace Go.Proofs.Ytknokiadbkgmaaa
open Go.RowKit Go.MapKept
set_option linter.unusedVariables false

theorem find_parts {R : RS} (h : Wide R) {c lin : Nat} (hc : c < 4294967296) (hl : lin < 4294967296) {wr us wp : Bool} {x : WalkR} {cd : Int} {R' : RS} (hf : find R c lin wr us wp = (x, cd, R')) :
    Wide R' ∧ x.pde < 4294967296 ∧ x.pte < 4294967296 ∧ (cd = -1 ∨ 0 ≤ cd) := by
  have hcode : 0 ≤ codeOf wr us := by unfold codeOf; (repeat' split) <;> decide
  unfold find at hf
  split at hf
  · obtain ⟨rfl, hf2⟩ := Prod.mk.inj hf
    obtain ⟨rfl, rfl⟩ := Prod.mk.inj hf2
    exact ⟨h, by decide, by decide, .inr hcode⟩
  · split at hf
    · obtain ⟨rfl, hf2⟩ := Prod.mk.inj hf
      obtain ⟨rfl, rfl⟩ := Prod.mk.inj hf2
      exact ⟨h, by decide, by decide, .inr hcode⟩
    · simp only at hf
      split at hf
      · obtain ⟨rfl, hf2⟩ := Prod.mk.inj hf
        obtain ⟨rfl, rfl⟩ := Prod.mk.inj hf2
        exact ⟨h, by decide, by decide, .inr (by omega)⟩
      · have ha0l : R.read (pdeOf c lin) 4 < 4294967296 := RS.read_lt h.ok _ 4
        generalize R.read (pdeOf c lin) 4 = a0 at *
        have hP := pde_lt c lin hc hl
        have hT := pte_lt a0 lin ha0l
        have w1 := (h.marks_same (pdeOf c lin) (pteOf a0 lin) hP (pde_4 _ _) hT (pte_4 _ _) (if wr then 96 else 32) (by split <;> decide) (by split <;> decide)).1
        obtain ⟨rfl, hf2⟩ := Prod.mk.inj hf
        obtain ⟨rfl, rfl⟩ := Prod.mk.inj hf2
        exact ⟨w1, hP, hT, .inl rfl⟩
section
variable {w w' : World} {t rb mb places cnt : Nat} {S S' : Nat → Prop} {ov : Value} {all : PKey → Option Ent} {order : List PKey} {R R' : RS}
/-- Behind a walk through the memory. -/
theorem TlbIn.found (H : TlbIn w t rb mb S ov places cnt all order R) (hR : Ram w' rb S' R') (hM : Moves S S' w w') (hw : Wide R') : TlbIn w' t rb mb S' ov places cnt all order R' := by
  have hlt : ∀ k, THeld t mb S ov k → k < w.heap.size := fun k hk => H.lt hk
  have hn : ∀ k, k < w.heap.size → ¬ S k → ¬ S' k := fun k hk hs h => by
    rcases hM.2 k h with h | h
    · exact hs h
    · omega
  have hb : ∀ k, k < w.heap.size → ¬ S k → w'.heap[k]? = w.heap[k]? := fun k hk hs => hM.1.block k hk hs
  have ht := hlt t (.inl rfl)
  have hm := hlt mb (.inr (.inl rfl))
  exact ⟨by rw [hb t ht H.d1]; exact H.obj, hR, H.map.of_heap (hb mb hm H.d2), H.ord.of_heap fun k hk => hb k (H.ord.lt hk) (H.d3 k hk), H.sub, H.good, H.c1, H.c2, hw,
    hn t ht H.d1, hn mb hm H.d2, fun k hk => hn k (H.ord.lt hk) (H.d3 k hk)⟩
/-- One entry more in the map; its key stands not yet in the row. -/
structure TlbPre (w : World) (t rb mb : Nat) (S : Nat → Prop) (ov : Value) (places cnt : Nat) (all : PKey → Option Ent) (order : List PKey) (R : RS) (K : PKey) : Prop where
  obj : w.heap[t]? = some (.cells #[.pointer (some ⟨rb, 0, none⟩), .int .i64 (places : Nat), .map (some mb), ov] 115)
  ram : Ram w rb S R
  map : MapK w mb PKey.val (fun K => (all K).map Ent.val) cnt
  ord : RowC w 127 5 ov order.length (keysV order)
  sub : ∀ L e, all L = some e → L ∈ order ++ [K]
  good : ∀ K e, all K = some e → e.x.pde < 4294967296 ∧ e.x.pte < 4294967296 ∧ Good K.c K.p K.wr K.us K.wp e.x e.a e.b
  c1 : cnt ≤ places
  c2 : places ≤ 64
  wide : Wide R
  d1 : ¬ S t
  d2 : ¬ S mb
  d3 : ∀ k, ov.ownBlock = some k → ¬ S k
  tm : t ≠ mb
  to : ov.ownBlock ≠ some t
  mo : ov.ownBlock ≠ some mb
theorem TlbIn.put (H : TlbIn w t rb mb S ov places cnt all order R) (hlt : cnt < places) {K : PKey} {e : Ent} {n' : Nat} (M : MapK w' mb PKey.val (fun m => if m = K then some e.val else (all m).map Ent.val) n') (hn : n' ≤ cnt + 1) (hk : Keeps (fun k => k = mb) w w')
    (hg : e.x.pde < 4294967296 ∧ e.x.pte < 4294967296 ∧ Good K.c K.p K.wr K.us K.wp e.x e.a e.b) :
    TlbPre w' t rb mb S ov places n' (fun m => if m = K then some e else all m) order R K := by
  have h : ∀ k, THeld t mb S ov k → k ≠ mb → w'.heap[k]? = w.heap[k]? := fun k hk' hne => hk.block k (H.lt hk') hne
  have e1 : (fun m => if m = K then some e.val else (all m).map Ent.val) = fun m => (if m = K then some e else all m).map Ent.val := by funext m; split <;> rfl
  refine ⟨by rw [h t (.inl rfl) H.t_m]; exact H.obj, H.ram.of_heap fun k hs => h k (.inr (.inr (.inr hs))) fun e => H.d2 (by rw [← e]; exact hs), by rw [← e1]; exact M,
    H.ord.of_heap fun k ho => h k (.inr (.inr (.inl ho))) fun e => H.m_o (by rw [← e]; exact ho), fun L e hL => ?_, fun L e hL => ?_, by omega, H.c2, H.wide, H.d1, H.d2, H.d3, H.t_m, H.t_o, H.m_o⟩
  · split at hL
    · rename_i e; subst e; simp
    · exact List.mem_append_left _ (H.sub L e hL)
  · split at hL
    · rename_i e2; subst e2
      cases hL; exact hg
    · exact H.good L e hL
theorem TlbPre.drewN {K : PKey} (H : TlbPre w t rb mb S ov places cnt all order R K) (n : Nat) : TlbPre (w.drewN n) t rb mb S ov places cnt all order R K :=
  ⟨H.obj, H.ram.drewN n, H.map.drewN n, H.ord.of_heap fun _ _ => rfl, H.sub, H.good, H.c1, H.c2, H.wide, H.d1, H.d2, H.d3, H.tm, H.to, H.mo⟩
theorem TlbPre.facts {K : PKey} (H : TlbPre w t rb mb S ov places cnt all order R K) :
    w.cell? ⟨t, 0, none⟩ = some (.pointer (some ⟨rb, 0, none⟩)) ∧ w.cell? ⟨t, 1, none⟩ = some (.int .i64 (places : Nat)) ∧ w.cell? ⟨t, 2, none⟩ = some (.map (some mb)) ∧ w.cell? ⟨t, 3, none⟩ = some ov ∧ (∀ k, w.frozen? ⟨t, k, none⟩ = false) ∧ t < w.heap.size := by
  have h := H.obj
  refine ⟨?_, ?_, ?_, ?_, fun k => free_at h, heap_lt h⟩ <;> (rw [cell_at h]; rfl)
/-- The first key is forgotten. -/
theorem TlbIn.pop {K0 : PKey} (H : TlbIn w t rb mb S ov places cnt all (K0 :: order) R) {n' : Nat} {ov' : Value} (M : MapK w' mb PKey.val (fun m => if m = K0 then none else (all m).map Ent.val) n') (hn : n' ≤ places) (hk : Keeps (fun k => k = mb) w w')
    (ho : RowC w' 127 5 ov' order.length (keysV order)) (hsub : ∀ k, ov'.ownBlock = some k → ov.ownBlock = some k) :
    TlbIn (w'.setCell ⟨t, 3, none⟩ ov') t rb mb S ov' places n' (fun m => if m = K0 then none else all m) order R := by
  have h : ∀ k, THeld t mb S ov k → k ≠ mb → w'.heap[k]? = w.heap[k]? := fun k hk' hne => hk.block k (H.lt hk') hne
  have hne : ∀ j, j ≠ t → (w'.setCell ⟨t, 3, none⟩ ov').heap[j]? = w'.heap[j]? := fun j h => heap_set_other _ h
  have e1 : (fun m => if m = K0 then none else (all m).map Ent.val) = fun m => (if m = K0 then none else all m).map Ent.val := by funext m; split <;> rfl
  have hobj : w'.heap[t]? = _ := (h t (.inl rfl) H.t_m).trans H.obj
  refine ⟨by rw [heap_set_map, hobj]; rfl, H.ram.of_heap fun k hs => (hne k fun e => H.d1 (by rw [← e]; exact hs)).trans (h k (.inr (.inr (.inr hs))) fun e => H.d2 (by rw [← e]; exact hs)), by rw [← e1]; exact M.of_heap (hne mb H.t_m.symm),
    ho.of_heap fun k hk' => hne k fun e => H.t_o (by rw [← e]; exact hsub k hk'), fun L e hL => ?_, fun L e hL => ?_, hn, H.c2, H.wide, H.d1, H.d2, fun k hk' => H.d3 k (hsub k hk')⟩
  · split at hL
    · cases hL
    · rename_i e2
      rcases List.mem_cons.1 (H.sub L e hL) with h | h
      · exact absurd h e2
      · exact h
  · split at hL
    · cases hL
    · exact H.good L e hL
theorem infoKey : (Try.prog.info? 127).map (fun i => (i.zero, i.size, i.bytes)) = some (some (.agg #[.int .u32 0, .int .u32 0, .bool false, .bool false, .bool false]), 5, 12) := by kernel_rfl
theorem key_new (w : World) (T : TypeId) (K : PKey) : ∀ j u, K.cells[j]? = some u → (w.alloc (.cells K.cells.toArray T)).cell? ((⟨w.heap.size, 0, none⟩ : Addr).add j) = some u := fun j u h => by
  rw [Go.WideShapes.add_plain, cell_at (heap_new w _)]
  simpa using h
theorem key_one (K : PKey) : ∀ u ∈ K.cells, u.oneCell' = true := fun u h => by
  simp only [PKey.cells, List.mem_cons, List.not_mem_nil, or_false] at h
  rcases h with rfl | rfl | rfl | rfl | rfl <;> rfl
/-- A key is appended to the row. -/
theorem append_key {K : PKey} (H : TlbPre w t rb mb S ov places cnt all order R K) (hL : (order.length + 1) * 12 ≤ 140737488355328) (ty : TypeId) :
    ∃ v6 w6, (Builtin.append_ #[113, 113] ty #[ov, .slice (some ⟨w.heap.size, 0, none⟩) 1 1]).run Try.prog (w.alloc (.cells K.cells.toArray 127)) = .ok v6 w6 ∧ w6.cell? ⟨t, 3, none⟩ = some ov ∧
      (∀ k, w6.frozen? ⟨t, k, none⟩ = false) ∧ t < w6.heap.size ∧ (∃ a n c, v6 = .slice a n c) ∧ Hid (TlbIn (w6.setCell ⟨t, 3, none⟩ v6) t rb mb S v6 places cnt all (order ++ [K]) R) ∧ Hid (Keeps (THeld t mb S ov) w (w6.setCell ⟨t, 3, none⟩ v6) ∧ ∀ k, (v6 : Value).ownBlock = some k → ov.ownBlock = some k ∨ w.heap.size ≤ k) := by
  obtain ⟨i0, hi, hz0, hz1, hz2⟩ := info_parts infoKey
  have hlenT := keysV_len order
  obtain ⟨v6, w6, hrun, hown, hgrow, hat⟩ := run_append_c (P := Try.prog) (w := w.alloc (.cells K.cells.toArray 127)) 113 ty i0 _ 5 12 Try.underlying113 hi hz0 hz1 hz2 (by rfl) (by decide)
    (H.ord.alloc _) ⟨w.heap.size, 0, none⟩ 1 K.cells (by rfl) (key_new w _ K) (key_one K) (by unfold maxLen; omega) (by omega)
  have hsz : (w.alloc (.cells K.cells.toArray 127)).heap.size = w.heap.size + 1 := by simp
  have htl := heap_lt H.obj
  have hml := H.map.lt
  have hold : ∀ k, k < w.heap.size → ov.ownBlock ≠ some k → w6.heap[k]? = w.heap[k]? := fun k hk hn => (hgrow.block k (by omega) (fun e => hn e.symm)).trans (Below.heap_alloc _ _ _ hk)
  have hob := hold t htl H.to
  have h6 : w6.heap[t]? = some (.cells #[.pointer (some ⟨rb, 0, none⟩), .int .i64 (places : Nat), .map (some mb), ov] 115) := hob.trans H.obj
  have hv : ∀ k, v6.ownBlock = some k → ov.ownBlock = some k ∨ w.heap.size ≤ k := fun k hk => (hat k hk).imp id (by omega)
  have hv3 : ∀ k, v6.ownBlock = some k → ¬ S k := fun k hk hs => by
    rcases hv k hk with h | h
    · exact H.d3 k h hs
    · have := H.ram.lt hs; omega
  have hvt : v6.ownBlock ≠ some t := fun e => by
    rcases hv t e with h | h
    · exact H.to h
    · omega
  have hne : ∀ j, j ≠ t → (w6.setCell ⟨t, 3, none⟩ v6).heap[j]? = w6.heap[j]? := fun j h => heap_set_other _ h
  have hkeep : Keeps (THeld t mb S ov) w (w6.setCell ⟨t, 3, none⟩ v6) := by
    refine Keeps.setCell (S := THeld t mb S ov) (p := ⟨t, 3, none⟩) (show Keeps (THeld t mb S ov) w w6 from ⟨hgrow.os, hgrow.tape, hgrow.output, by have := hgrow.size; omega, fun k hk hn => ?_⟩) (Or.inl (Or.inl rfl)) _
    exact hold k hk fun e => hn (.inr (.inr (.inl e)))
  refine ⟨v6, w6, hrun, by rw [cell_at h6]; rfl, fun k => free_at h6, heap_lt h6, hown.len.imp fun a h => ⟨order.length + 1, h⟩, Lib.hid ⟨by rw [heap_set_map, h6]; rfl, ?_, ?_, ?_, H.sub, H.good, H.c1, H.c2, H.wide, H.d1, H.d2, hv3⟩, Lib.hid ⟨hkeep, hv⟩⟩
  · exact H.ram.of_heap fun k hs => (hne k fun e => H.d1 (by rw [← e]; exact hs)).trans (hold k (H.ram.lt hs) fun e => H.d3 k e hs)
  · exact H.map.of_heap ((hne mb H.tm.symm).trans (hold mb hml H.mo))
  · rw [List.length_append, keysV_snoc]
    exact hown.of_heap fun k hk => hne k fun e => hvt (by rw [← e]; exact hk)
/-- The same, as a step of a region. -/
theorem step_append_key {ops : Array Oper} {o : Oper} {a : Act} {KK : Act → World → Prop} {Q : Exit → Act → World → Prop} {E : Prop} {K : PKey} (H : TlbPre w t rb mb S ov places cnt all order R K) (hL : (order.length + 1) * 12 ≤ 140737488355328)
    (hgd : o.guard = none) (s x : Operand) (ho : o.op = .call { callee := .builtin .append, args := #[s, x], argTypes := #[113, 113] }) (hs : a.eval s = ov) (hx : a.eval x = .slice (some ⟨w.heap.size, 0, none⟩) 1 1)
    (h : ∀ a6 n6 q6 w6, w6.cell? ⟨t, 3, none⟩ = some ov → (∀ k, w6.frozen? ⟨t, k, none⟩ = false) → t < w6.heap.size → Hid (TlbIn (w6.setCell ⟨t, 3, none⟩ (.slice a6 n6 q6)) t rb mb S (.slice a6 n6 q6) places cnt all (order ++ [K]) R) → Hid (Keeps (THeld t mb S ov) w (w6.setCell ⟨t, 3, none⟩ (.slice a6 n6 q6)) ∧ ∀ k, (.slice a6 n6 q6 : Value).ownBlock = some k → ov.ownBlock = some k ∨ w.heap.size ≤ k) → KK (a.put o.dst (.slice a6 n6 q6)) w6) :
    if Region.wanted o (yielded ops a.tmps) = true then Oper.wp Try.prog o a (w.alloc (.cells K.cells.toArray 127)) KK Q else E := by
  have hw : Region.wanted o (yielded ops a.tmps) = true := by simp [Region.wanted, hgd]
  rw [if_pos hw]
  obtain ⟨v6, w6, hr, h1, h2, h3, ⟨a6, n6, q6, rfl⟩, h4, h5⟩ := append_key H hL o.type
  unfold Oper.wp execOp
  simp only [ho, resolve, invoke, builtin, Sem.run_bind, Sem.run_pure, Result.andThen_ok, List.map_toArray, List.map_cons, List.map_nil, hs, hx, hr]
  exact h a6 n6 q6 w6 h1 h2 h3 h4 h5
end
end Go.Proofs.Ytknokiadbkgmaaa
