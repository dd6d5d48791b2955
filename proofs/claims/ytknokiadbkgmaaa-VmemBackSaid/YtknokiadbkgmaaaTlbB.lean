/- tlb: the keeper's object; the words of a walk; New, Kept, Flush. -/
import Derived.Test.YtknokiadbkgmaaaTlbA
import Derived.Test.YtknokiadbkgmaaaRow
import Derived.Deep.QuietTactic
import Derived.BigQuiet
import Derived.Lib.Hide
namespace Go.Proofs.Ytknokiadbkgmaaa
open Go.RowKit Go.MapKept
set_option linter.unusedVariables false

theorem Ram.of_heap {w w' : World} {b : Nat} {S : Nat → Prop} {R : RS} (H : Ram w b S R) (h : ∀ k, S k → w'.heap[k]? = w.heap[k]?) : Ram w' b S R := by
  obtain ⟨bp, bo, bw, bn, pg, HI, hs⟩ := H
  exact ⟨bp, bo, bw, bn, pg, HI.of_heap fun k hk => h k ((hs k).2 hk), hs⟩
/-- What is kept at a page. -/
structure Ent where
  x : WalkR
  a : Nat
  b : Nat
def Ent.val (e : Ent) : Value := .agg #[.int .u32 (e.x.frame : Nat), .int .u32 (e.x.pde : Nat), .int .u32 (e.x.pte : Nat), .bool e.x.w, .bool e.x.u, .int .u32 (e.a : Nat), .int .u32 (e.b : Nat)]
def PKey.cells (K : PKey) : List Value := [.int .u32 (K.c : Nat), .int .u32 (K.p : Nat), .bool K.wr, .bool K.us, .bool K.wp]
def keysV (L : List PKey) : List Value := L.flatMap PKey.cells
theorem keysV_len (L : List PKey) : (keysV L).length = L.length * 5 := by
  induction L with
  | nil => rfl
  | cons K L ih =>
    have : keysV (K :: L) = K.cells ++ keysV L := rfl
    rw [this, List.length_append, ih]
    show 5 + _ = (L.length + 1) * 5
    omega
theorem keysV_snoc (L : List PKey) (K : PKey) : keysV (L ++ [K]) = keysV L ++ K.cells := by unfold keysV; simp
theorem keysV_drop (K : PKey) (L : List PKey) : (keysV (K :: L)).drop 5 = keysV L := rfl
/-- A keeper: its block t, the memory's block rb, its map mb, its row of keys ov. -/
structure TlbIn (w : World) (t rb mb : Nat) (S : Nat → Prop) (ov : Value) (places cnt : Nat) (all : PKey → Option Ent) (order : List PKey) (R : RS) : Prop where
  obj : w.heap[t]? = some (.cells #[.pointer (some ⟨rb, 0, none⟩), .int .i64 (places : Nat), .map (some mb), ov] 115)
  ram : Ram w rb S R
  map : MapK w mb PKey.val (fun K => (all K).map Ent.val) cnt
  ord : RowC w 127 5 ov order.length (keysV order)
  sub : ∀ K e, all K = some e → K ∈ order
  good : ∀ K e, all K = some e → e.x.pde < 4294967296 ∧ e.x.pte < 4294967296 ∧ Good K.c K.p K.wr K.us K.wp e.x e.a e.b
  c1 : cnt ≤ places
  c2 : places ≤ 64
  wide : Wide R
  d1 : ¬ S t
  d2 : ¬ S mb
  d3 : ∀ k, ov.ownBlock = some k → ¬ S k
def THeld (t mb : Nat) (S : Nat → Prop) (ov : Value) (k : Nat) : Prop := k = t ∨ k = mb ∨ ov.ownBlock = some k ∨ S k
section
variable {w w' : World} {t rb mb places cnt : Nat} {S : Nat → Prop} {ov : Value} {all : PKey → Option Ent} {order : List PKey} {R : RS}
theorem TlbIn.t_m (H : TlbIn w t rb mb S ov places cnt all order R) : t ≠ mb := by
  rintro rfl
  obtain ⟨es, clock, hb, _⟩ := H.map
  rw [H.obj] at hb; cases hb
theorem TlbIn.t_o (H : TlbIn w t rb mb S ov places cnt all order R) : ov.ownBlock ≠ some t := by
  intro h
  obtain ⟨cur, hc⟩ := H.ord.block h
  rw [H.obj] at hc
  simp at hc
theorem TlbIn.m_o (H : TlbIn w t rb mb S ov places cnt all order R) : ov.ownBlock ≠ some mb := by
  intro h
  obtain ⟨cur, hc⟩ := H.ord.block h
  obtain ⟨es, clock, hb, _⟩ := H.map
  rw [hb] at hc; cases hc
theorem TlbIn.lt (H : TlbIn w t rb mb S ov places cnt all order R) {k : Nat} (h : THeld t mb S ov k) : k < w.heap.size := by
  rcases h with rfl | rfl | h | h
  · exact heap_lt H.obj
  · exact H.map.lt
  · exact H.ord.lt h
  · exact H.ram.lt h
theorem TlbIn.of_heap (H : TlbIn w t rb mb S ov places cnt all order R) (h : ∀ k, THeld t mb S ov k → w'.heap[k]? = w.heap[k]?) : TlbIn w' t rb mb S ov places cnt all order R :=
  ⟨by rw [h t (.inl rfl)]; exact H.obj, H.ram.of_heap fun k hk => h k (.inr (.inr (.inr hk))), H.map.of_heap (h mb (.inr (.inl rfl))), H.ord.of_heap fun k hk => h k (.inr (.inr (.inl hk))), H.sub, H.good, H.c1, H.c2, H.wide, H.d1, H.d2, H.d3⟩
theorem TlbIn.keeps {Q : Nat → Prop} (H : TlbIn w t rb mb S ov places cnt all order R) (hk : Keeps Q w w') (hn : ∀ k, THeld t mb S ov k → ¬ Q k) : TlbIn w' t rb mb S ov places cnt all order R :=
  H.of_heap fun k h => hk.block k (H.lt h) (hn k h)
theorem TlbIn.alloc (H : TlbIn w t rb mb S ov places cnt all order R) (o : Obj) : TlbIn (w.alloc o) t rb mb S ov places cnt all order R := H.of_heap fun k hk => Below.heap_alloc _ _ _ (H.lt hk)
theorem TlbIn.drewN (H : TlbIn w t rb mb S ov places cnt all order R) (n : Nat) : TlbIn (w.drewN n) t rb mb S ov places cnt all order R := H.of_heap fun _ _ => rfl
theorem TlbIn.below (H : TlbIn w t rb mb S ov places cnt all order R) (hb : Below w.heap.size w w') : TlbIn w' t rb mb S ov places cnt all order R := H.of_heap fun k hk => hb.block k (H.lt hk)
theorem TlbIn.facts (H : TlbIn w t rb mb S ov places cnt all order R) :
    w.cell? ⟨t, 0, none⟩ = some (.pointer (some ⟨rb, 0, none⟩)) ∧ w.cell? ⟨t, 1, none⟩ = some (.int .i64 (places : Nat)) ∧ w.cell? ⟨t, 2, none⟩ = some (.map (some mb)) ∧ w.cell? ⟨t, 3, none⟩ = some ov ∧ (∀ k, w.frozen? ⟨t, k, none⟩ = false) ∧ t < w.heap.size := by
  have h := H.obj
  refine ⟨?_, ?_, ?_, ?_, fun k => free_at h, heap_lt h⟩ <;> (rw [cell_at h]; rfl)
/-- The two words of a walk, as they are. -/
theorem words_any (H : TlbIn w t rb mb S ov places cnt all order R) (x : WalkR) (hp : x.pde < 4294967296) (ht : x.pte < 4294967296) :
    Calls Try.prog 50 #[.pointer (some ⟨t, 0, none⟩), x.val] w fun e w' => e = .returned (.tuple #[.int .u32 (R.read x.pde 4 : Nat), .int .u32 (R.read x.pte 4 : Nat)]) ∧ Below w.heap.size w w' := by
  obtain ⟨k0, -, -, -, kf, kl⟩ := H.facts
  obtain ⟨o, ho⟩ : ∃ o, o = Obj.cells #[.int .u32 (x.frame : Nat), .int .u32 (x.pde : Nat), .int .u32 (x.pte : Nat), .bool x.w, .bool x.u] 123 := ⟨_, rfl⟩
  have HO := Lib.hid (heap_new w o)
  have HT := Lib.hid (H.alloc o)
  have HB := Lib.hid ((Below.refl w.heap.size w).alloc (Nat.le_refl _) o)
  clear H
  unfold WalkR.val
  go_enter Try.func50, Try.ntmps50
  go_wp2_with fail
  rw [← ho]
  generalize w.alloc o = w1 at *
  generalize hg : w.heap.size = g at *
  have HG := Lib.hid hg
  clear k0 kf kl hg
  obtain ⟨k0, -, -, -, kf, kl⟩ := HT.out.facts
  have hO := HO.out
  rw [ho] at hO
  have z1 := cell_at (k := 1) hO
  have z2 := cell_at (k := 2) hO
  have zl := heap_lt hO
  simp at z1 z2
  clear hO
  go_quiet ((go_at_call 45; exact Calls.quiet_of (read_4 (HT.out.ram.drewN _) x.pde hp)))
  have HT2 := Lib.hid (HT.out.drewN nq)
  have HB2 := Lib.hid (below_dn HB.out nq)
  have y2 : (w1.drewN nq).cell? ⟨g, 2, none⟩ = _ := z2
  have yl : g < (w1.drewN nq).heap.size := zl
  generalize w1.drewN nq = w2 at *
  clear k0 kf kl z1 z2 zl
  obtain ⟨k0, -, -, -, kf, kl⟩ := HT2.out.facts
  go_wp2_with fail
  go_quiet ((go_at_call 45; exact Calls.quiet_of (read_4 (HT2.out.ram.drewN _) x.pte ht)))
  go_wp2_with fail
  go_ret2
  exact ⟨rfl, by rw [HG.out]; exact below_dn HB2.out nq⟩
/-- A keeper whose blocks are those of H; of its row of keys there are no more than n. -/
def Tl (w : World) (t rb : Nat) (H : Nat → Prop) (places n : Nat) (R : RS) : Prop :=
  ∃ mb S ov cnt all order, TlbIn w t rb mb S ov places cnt all order R ∧ order.length ≤ n ∧ ∀ k, H k ↔ THeld t mb S ov k
theorem flush_nil (w : World) : Calls Try.prog 41 #[.pointer none] w fun e w' => e = .returned (.tuple #[]) ∧ w = w' := by
  go_enter Try.func41, Try.ntmps41
  go_wp2_with fail
  go_end0
  exact ⟨rfl, rfl⟩
theorem drop_nil (w : World) (x : Int) : Calls Try.prog 42 #[.pointer none, .int .u32 x] w fun e w' => e = .returned (.tuple #[]) ∧ w = w' := by
  go_enter Try.func42, Try.ntmps42
  go_wp2_with fail
  go_returns
  exact ⟨rfl, rfl⟩
theorem tnew_nil (w : World) (x : Int) : Calls Try.prog 30 #[.pointer none, .int .i64 x] w fun e w' => e = .returned (.tuple #[.pointer none, .int .i64 1]) ∧ w = w' := by
  go_enter Try.func30, Try.ntmps30
  go_wp2_with fail
  go_ret2
  exact ⟨rfl, rfl⟩
theorem tnew_bad (w : World) (a : Addr) (x : Int) (h : x < 0 ∨ 64 < x) : Calls Try.prog 30 #[.pointer (some a), .int .i64 x] w fun e w' => e = .returned (.tuple #[.pointer none, .int .i64 100]) ∧ w = w' := by
  by_cases h0 : x < 0
  · clear h
    go_enter Try.func30, Try.ntmps30
    go_wp2_with fail
    go_ret2
    exact ⟨rfl, rfl⟩
  · have h1 : 64 < x := by omega
    have g0 : ¬ x < 0 := h0
    clear h
    go_enter Try.func30, Try.ntmps30
    go_wp2_with fail
    go_ret2
    exact ⟨rfl, rfl⟩
theorem tnew_any {b : Nat} (H : Ram w b S R) (hw : Wide R) (n : Nat) (hn : n ≤ 64) : Calls Try.prog 30 #[.pointer (some ⟨b, 0, none⟩), .int .i64 (n : Nat)] w fun e w' => e = .returned (.tuple #[.pointer (some ⟨w.heap.size + 1, 0, none⟩), .int .i64 0]) ∧
    TlbIn w' (w.heap.size + 1) b w.heap.size S (.slice none 0 0) n 0 (fun _ => none) [] R ∧ Below w.heap.size w w' := by
  have hs : ∀ k, S k → k < w.heap.size := fun k hk => H.lt hk
  have hmm : ∀ (t : TypeId) (w : World), (Instr.makeMap t none).run Try.prog w = .ok (.map (some w.heap.size)) (w.alloc (.map #[] 0)) := fun t w => by simp [Instr.makeMap, Result.andThen]
  have h0 : ¬ (n : Int) < 0 := by omega
  have h1 : ¬ 64 < (n : Int) := by omega
  go_enter Try.func30, Try.ntmps30
  go_wp2_with fail
  go_ret2
  refine ⟨rfl, ⟨by rw [show w.heap.size + 1 = (w.alloc (.map #[] 0)).heap.size by simp]; exact heap_new _ _, (H.alloc _).alloc _, (MapK.new w PKey.val).alloc _, RowC.nil _ _ _, (fun K e h => by cases h), (fun K e h => by cases h), Nat.zero_le _, hn, hw, fun h => ?_, fun h => ?_, (fun k h => by cases h)⟩, ((Below.refl _ _).alloc (Nat.le_refl _) _).alloc (by simp) _⟩
  · have := hs _ h; omega
  · have := hs _ h; omega
theorem flush_any (H : TlbIn w t rb mb S ov places cnt all order R) : Calls Try.prog 41 #[.pointer (some ⟨t, 0, none⟩)] w fun e w' => e = .returned (.tuple #[]) ∧ TlbIn w' t rb mb S (.slice none 0 0) places 0 (fun _ => none) [] R ∧ Keeps (fun k => k = t ∨ k = mb) w w' := by
  obtain ⟨k0, k1, k2, k3, kf, kl⟩ := H.facts
  obtain ⟨w2, hcl, M2, K2⟩ := H.map.clear (P := Try.prog) PK Try.underlying112 0
  have h2 : ∀ k, k < w.heap.size → k ≠ mb → w2.heap[k]? = w.heap[k]? := fun k hk hn => K2.block k hk hn
  have hobj : w2.heap[t]? = _ := (h2 t kl H.t_m).trans H.obj
  have c0 : w2.cell? ⟨t, 3, none⟩ = some ov := by rw [cell_at hobj]; rfl
  have cf : ∀ k, w2.frozen? ⟨t, k, none⟩ = false := fun k => free_at hobj
  have cl := heap_lt hobj
  have hne : ∀ j, j ≠ t → (w2.setCell ⟨t, 3, none⟩ (.slice none 0 0)).heap[j]? = w2.heap[j]? := fun j h => heap_set_other _ h
  have HE := Lib.hid (show TlbIn (w2.setCell ⟨t, 3, none⟩ (.slice none 0 0)) t rb mb S (.slice none 0 0) places 0 (fun _ => none) [] R from
    ⟨by rw [heap_set_map, hobj]; rfl, H.ram.of_heap fun k hk => (hne k fun e => H.d1 (by rw [← e]; exact hk)).trans (h2 k (H.ram.lt hk) fun e => H.d2 (by rw [← e]; exact hk)), M2.of_heap (hne mb H.t_m.symm), RowC.nil _ _ _,
      (fun K e h => by cases h), (fun K e h => by cases h), Nat.zero_le _, H.c2, H.wide, H.d1, H.d2, (fun k h => by cases h)⟩)
  have HK := Lib.hid (show Keeps (fun k => k = t ∨ k = mb) w (w2.setCell ⟨t, 3, none⟩ (.slice none 0 0)) from (K2.mono fun k _ h => .inr h).setCell (.inl (.inl rfl)) _)
  clear H M2 K2 h2 hobj hne
  go_enter Try.func41, Try.ntmps41
  go_wp2_with fail
  go_end0
  exact ⟨rfl, HE.out, HK.out⟩
end
end Go.Proofs.Ytknokiadbkgmaaa
