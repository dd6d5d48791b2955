/- RamNotes, in plain words: what is watched, written, wanted. -/
import Derived.Test.YtfdeojefcfnogaaRamM
namespace Go.Proofs.Ytfdeojefcfnogaa
open Go.RowKit Go.MapKept
set_option linter.unusedVariables false

/-- A memory of two pages, the first of which may be read alone (o); its marks. -/
structure Nt (R : RS) (o : Bool) (W N : Nat → Bool) : Prop where
  pg : R.pages = 2
  cl : R.closed = false
  ol : ∀ k, R.only k = (o && k == 0)
  wt : ∀ g, R.watched g = W g
  nt : ∀ n, R.noted n = N n
  z : o = true → ∀ i, i < 4096 → R.byte i = 0
theorem Nt.place {R : RS} {o : Bool} {W N : Nat → Bool} (h : Nt R o W N) (a : Nat) : R.place a = a := by unfold RS.place; rw [h.cl]; rfl
theorem Nt.size {R : RS} {o : Bool} {W N : Nat → Bool} (h : Nt R o W N) : R.size = 8192 := by unfold RS.size; rw [h.pg]
theorem Nt.watch {R : RS} {o : Bool} {W N : Nat → Bool} (h : Nt R o W N) {a : Nat} (ha : a < 8192) : Nt (R.watch a) o (fun g => W g || g == a / 64) N := by
  unfold RS.watch
  rw [h.place, h.size, if_pos ha]
  refine ⟨h.pg, h.cl, h.ol, fun g => ?_, h.nt, h.z⟩
  show (if g = a / 64 then true else R.watched g) = _
  rw [h.wt]
  by_cases e : g = a / 64
  · rw [if_pos e, e]; simp
  · rw [if_neg e]; simp [e]
theorem Nt.write {R : RS} {o : Bool} {W N : Nat → Bool} (h : Nt R o W N) {a : Nat} (ha : a < 8192) :
    Nt (R.write a 7 1) o (fun g => W g && !(a / 64 == g && (!o || decide (4096 ≤ a)))) (fun n => N n || (n == a / 64 * 64 && W (a / 64) && (!o || decide (4096 ≤ a)))) := by
  have e1 : R.write a 7 1 = R.wr a 7 := by
    show (R.wr (at32 a 0) (7 / 256 ^ 0 % 256)) = _
    have : at32 a 0 = a := by unfold at32; omega
    rw [this]
  rw [e1]
  unfold RS.wr
  rw [h.place, h.size, h.ol]
  by_cases hk : (!o || decide (4096 ≤ a)) = true
  · rw [if_pos ⟨ha, by
      cases o
      · rfl
      · simp at hk; simp; omega⟩, hk]
    refine ⟨h.pg, h.cl, h.ol, fun g => ?_, fun n => ?_, fun ho i hi => ?_⟩
    · show (if g = a / 64 then false else R.watched g) = _
      rw [h.wt]
      by_cases e : g = a / 64
      · rw [if_pos e, e]; simp
      · rw [if_neg e]; simp [Ne.symm e]
    · show (if n = a / 64 * 64 ∧ R.watched (a / 64) = true then true else R.noted n) = _
      rw [h.wt, h.nt]
      by_cases e : n = a / 64 * 64
      · cases hW : W (a / 64)
        · rw [if_neg (by simp)]; simp
        · rw [if_pos ⟨e, rfl⟩]; simp [e]
      · rw [if_neg (fun h => e h.1)]; simp [e]
    · show (if i = a then 7 else R.byte i) = 0
      subst ho
      simp at hk
      rw [if_neg (by omega)]
      exact h.z rfl i hi
  · have hk2 : (!o || decide (4096 ≤ a)) = false := by simpa using hk
    rw [if_neg (fun hh => by
      have := hh.2
      simp at hk2
      rw [hk2.1] at this
      simp at this
      omega), hk2]
    exact ⟨h.pg, h.cl, h.ol, fun g => by rw [h.wt]; simp, fun n => by rw [h.nt]; simp, h.z⟩
/-- A place. -/
def pz (z : Nat → Int) (i : Nat) : Nat := (z i).toNat % 8192
theorem pz_lt (z : Nat → Int) (i : Nat) : pz z i < 8192 := Nat.mod_lt _ (by decide)
/-- What is watched. -/
def wat (z : Nat → Int) : Nat → Nat → Bool
  | 0, g => false
  | k + 1, g => wat z k g || g == pz z k / 64
/-- What is hit. -/
def hitN (o : Bool) (z : Nat → Int) : Nat → Nat → Bool
  | 0, g => false
  | k + 1, g => hitN o z k g || (pz z k / 64 == g && (!o || decide (4096 ≤ pz z k)))
theorem hit_succ (o : Bool) (z : Nat → Int) (k g : Nat) : hitN o z (k + 1) g = (hitN o z k g || (pz z k / 64 == g && (!o || decide (4096 ≤ pz z k)))) := rfl
theorem wat_succ (z : Nat → Int) (k g : Nat) : wat z (k + 1) g = (wat z k g || g == pz z k / 64) := rfl
theorem wat_lt (z : Nat → Int) : ∀ k g, wat z k g = true → g < 128
  | 0, g, h => by cases h
  | k + 1, g, h => by
    rw [wat_succ, Bool.or_eq_true] at h
    rcases h with h | h
    · exact wat_lt z k g h
    · have := pz_lt z k
      simp at h
      omega
theorem Nt.ext {R : RS} {o : Bool} {W N W' N' : Nat → Bool} (h : Nt R o W N) (hw : ∀ g, W g = W' g) (hn : ∀ n, N n = N' n) : Nt R o W' N' := ⟨h.pg, h.cl, h.ol, fun g => (h.wt g).trans (hw g), fun n => (h.nt n).trans (hn n), h.z⟩
/-- The marks behind so many writes. -/
def wEnd (o : Bool) (W : Nat → Bool) (y : Nat → Int) (k g : Nat) : Bool := W g && !hitN o y k g
def nEnd (o : Bool) (W : Nat → Bool) (y : Nat → Int) (k n : Nat) : Bool := n % 64 == 0 && (W (n / 64) && hitN o y k (n / 64))
theorem nEnd_step {o : Bool} {W : Nat → Bool} {y : Nat → Int} {k : Nat} (n : Nat) : (nEnd o W y k n || (n == pz y k / 64 * 64 && wEnd o W y k (pz y k / 64) && (!o || decide (4096 ≤ pz y k)))) = nEnd o W y (k + 1) n := by
  simp only [nEnd, wEnd, hit_succ]
  by_cases e : n = pz y k / 64 * 64
  · have e1 : n / 64 = pz y k / 64 := by omega
    have e2 : n % 64 = 0 := by omega
    rw [e1, e2, ← e]
    generalize hitN o y k (pz y k / 64) = a
    generalize W (pz y k / 64) = c
    generalize (!o || decide (4096 ≤ pz y k)) = d
    cases a <;> cases c <;> cases d <;> simp
  · have e1 : (n == pz y k / 64 * 64) = false := by simpa using e
    rw [e1]
    by_cases e3 : n % 64 = 0
    · have e4 : (pz y k / 64 == n / 64) = false := by simp; omega
      rw [e4]
      simp
    · have e5 : (n % 64 == 0) = false := by simpa using e3
      rw [e5]
      rfl
theorem wEnd_step {o : Bool} {W : Nat → Bool} {y : Nat → Int} {k : Nat} (g : Nat) : (wEnd o W y k g && !(pz y k / 64 == g && (!o || decide (4096 ≤ pz y k)))) = wEnd o W y (k + 1) g := by
  simp only [wEnd, hit_succ]
  generalize (pz y k / 64 == g && (!o || decide (4096 ≤ pz y k))) = d
  cases W g <;> cases hitN o y k g <;> cases d <;> rfl
/-- What is wanted, of the first m granules. -/
def wantL (p : Nat → Bool) : Nat → List Nat
  | 0 => []
  | m + 1 => if p m then wantL p m ++ [m * 64] else wantL p m
theorem want_lt (p : Nat → Bool) : ∀ m x, x ∈ wantL p m → x < m * 64
  | 0, x, h => by cases h
  | m + 1, x, h => by
    unfold wantL at h
    split at h
    · rcases List.mem_append.1 h with h | h
      · have := want_lt p m x h; omega
      · have := List.mem_singleton.1 h; omega
    · have := want_lt p m x h; omega
theorem want_up (p : Nat → Bool) : ∀ m, (wantL p m).Pairwise (· < ·)
  | 0 => List.Pairwise.nil
  | m + 1 => by
    unfold wantL
    split
    · refine List.pairwise_append.2 ⟨want_up p m, List.pairwise_singleton _ _, fun a ha c hc => ?_⟩
      rw [List.mem_singleton.1 hc]
      exact want_lt p m a ha
    · exact want_up p m
theorem want_len (p : Nat → Bool) : ∀ m, (wantL p m).length ≤ m
  | 0 => Nat.le_refl _
  | m + 1 => by
    have := want_len p m
    unfold wantL
    split
    · rw [List.length_append, List.length_singleton]; omega
    · omega
theorem want_mem (p : Nat → Bool) (x : Nat) : ∀ m, x ∈ wantL p m ↔ x % 64 = 0 ∧ p (x / 64) = true ∧ x / 64 < m
  | 0 => by
    constructor
    · intro h; cases h
    · rintro ⟨_, _, h⟩; omega
  | m + 1 => by
    have ih := want_mem p x m
    unfold wantL
    split
    · rename_i hp
      rw [List.mem_append, List.mem_singleton, ih]
      constructor
      · rintro (h | rfl)
        · exact ⟨h.1, h.2.1, by omega⟩
        · exact ⟨by omega, by rw [Nat.mul_div_cancel _ (by decide)]; exact hp, by omega⟩
      · rintro ⟨h1, h2, h3⟩
        by_cases e : x / 64 = m
        · exact .inr (by omega)
        · exact .inl ⟨h1, h2, by omega⟩
    · rename_i hp
      rw [ih]
      constructor
      · rintro ⟨h1, h2, h3⟩; exact ⟨h1, h2, by omega⟩
      · rintro ⟨h1, h2, h3⟩
        refine ⟨h1, h2, ?_⟩
        by_cases e : x / 64 = m
        · rw [e] at h2; exact absurd h2 hp
        · omega
theorem one_newU (w : World) (x : Nat) : ∀ (j : Nat) (u : Value), [(.int .u32 (x : Nat) : Value)][j]? = some u → (w.alloc (.cells #[.int .u32 (x : Nat)] 23)).cell? ((⟨w.heap.size, 0, none⟩ : Addr).add j) = some u := by
  intro j u h
  match j, h with
  | 0, h =>
    cases h
    rw [show ((⟨w.heap.size, 0, none⟩ : Addr).add 0) = ⟨w.heap.size, 0, none⟩ from rfl, cell_at (heap_new w _)]
    rfl
theorem ints_low {k : IntKind} {w w' : World} {a : Option Addr} {n : Nat} {z : Nat → Int} (h : IntsIn k w a n z) (hb : Below w.heap.size w w') : IntsIn k w' a n z := by
  rcases h with h | ⟨b, off, rfl, hl, hc⟩
  · exact .inl h
  · exact .inr ⟨b, off, rfl, Nat.lt_of_lt_of_le hl hb.size, fun i hi => ⟨(World.cell?_of_block (hb.block b hl)).trans (hc i hi).1, (hc i hi).2⟩⟩
theorem ints_at {w : World} {a : Option Addr} {n : Nat} {z : Nat → Int} (h : IntsIn .u32 w a n z) (k : Nat) (hk : k < n) : ∃ b off, a = some ⟨b, off, none⟩ ∧ b < w.heap.size ∧ w.cell? ⟨b, off + k, none⟩ = some (.int .u32 (z k)) ∧ 0 ≤ z k ∧ z k < 4294967296 ∧ z k % 8192 = (pz z k : Nat) := by
  rcases h with h | ⟨b, off, rfl, hl, hc⟩
  · omega
  · obtain ⟨h1, h2, h3⟩ := hc k hk
    have h2 : 0 ≤ z k := h2
    have h3 : z k ≤ 4294967295 := h3
    exact ⟨b, off, rfl, hl, h1, h2, by omega, by unfold pz; omega⟩
theorem rs_start (o : Bool) : Nt (if o then (RS.new 2).romAt 0 true else RS.new 2) o (fun _ => false) (fun _ => false) := by
  cases o
  · exact ⟨rfl, rfl, fun k => rfl, fun g => rfl, fun n => rfl, fun h => by cases h⟩
  · refine ⟨rfl, rfl, fun k => ?_, fun g => rfl, fun n => rfl, fun _ i _ => rfl⟩
    show (if k = 0 then true else false) = (true && k == 0)
    by_cases e : k = 0
    · subst e; rfl
    · rw [if_neg e]; simp [e]
theorem Nt.notedLen {R : RS} {o : Bool} {W N : Nat → Bool} (h : Nt R o W N) (hN : ∀ n, N n = true → n < 8192) (L : List Nat) (hn : L.Nodup) (hL : ∀ x ∈ L, R.noted x = true) : L.length ≤ 1048576 :=
  Nat.le_trans (nodup_len 8192 L hn fun x hx => hN x ((h.nt x).symm.trans (hL x hx))) (by decide)
theorem nEnd_lt {o : Bool} {W : Nat → Bool} (hW : ∀ g, W g = true → g < 128) {y : Nat → Int} {k n : Nat} (h : nEnd o W y k n = true) : n < 8192 := by
  unfold nEnd at h
  simp only [Bool.and_eq_true] at h
  have := hW _ h.2.1
  omega
theorem nEnd_want {o : Bool} {W : Nat → Bool} (hW : ∀ g, W g = true → g < 128) {y : Nat → Int} {k x : Nat} : nEnd o W y k x = true ↔ x ∈ wantL (fun g => W g && hitN o y k g) 128 := by
  rw [want_mem]
  unfold nEnd
  simp only [Bool.and_eq_true, beq_iff_eq]
  constructor
  · rintro ⟨h1, h2, h3⟩; exact ⟨h1, ⟨h2, h3⟩, hW _ h2⟩
  · rintro ⟨h1, ⟨h2, h3⟩, _⟩; exact ⟨h1, h2, h3⟩
theorem wEnd_want {o : Bool} {W : Nat → Bool} {y : Nat → Int} {k x : Nat} (h : x ∈ wantL (fun g => W g && hitN o y k g) 128) : wEnd o W y k (x / 64) = false ∧ x < 8192 := by
  rw [want_mem] at h
  obtain ⟨h1, h2, h3⟩ := h
  simp only [Bool.and_eq_true] at h2
  unfold wEnd
  rw [h2.2]
  exact ⟨by simp, by omega⟩
end Go.Proofs.Ytfdeojefcfnogaa
