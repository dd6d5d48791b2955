/- ide's laws: a sector is written; in plain words. -/
import Derived.Test.YtebhnfoehgpilaaIdeR
namespace Go.Proofs.Ytebhnfoehgpilaa
open Go.RowKit
set_option linter.unusedVariables false

/-- k bytes of a sector are put. -/
structure Writing (n : Nat) (d : Nat → Nat) (p : Nat) (f : Nat → Nat) (k : Nat) (S : Dk) : Prop where
  hn : S.n = n
  failed : S.failed = false
  lies : S.r 6 = 64
  on : k < 512 → S.mode = 2 ∧ S.done = k ∧ Lies p 1 S ∧ S.d = d ∧ S.log = [] ∧ ∀ j, j < k → S.buf j = f j
  off : k = 512 → S.mode = 0 ∧ S.log = [p] ∧ S.d = laid d f (p * 512)
theorem begin_write {p : Nat} {S : Dk} (h : Lies p 1 S) (hp : p < S.n) (hl : S.log = []) (hf : S.failed = false) (f : Nat → Nat) : Writing S.n S.d p f 0 (S.begin 2) := by
  unfold Dk.begin
  rw [h.place, if_pos hp, if_neg (by decide)]
  exact ⟨rfl, hf, h.r6, fun _ => ⟨rfl, rfl, ⟨h.r6, h.r5, h.r4, h.r3, h.r2⟩, rfl, hl, fun j hj => absurd hj (Nat.not_lt_zero _)⟩, fun h => by omega⟩
theorem sect_write {n p : Nat} {d : Nat → Nat} {S : Dk} (hn : S.n = n) (hd : S.d = d) (hl : S.log = []) (hp : p < n) (hn64 : n ≤ 64) (f : Nat → Nat) : Writing n d p f 0 (S.sect 48 p) := by
  have h := Lies.at1 S p (by omega)
  unfold Dk.sect
  rw [h.writes]
  have a1 : (S.at1 p).clean.n = n := hn
  have a2 : (S.at1 p).clean.d = d := hd
  have a3 : (S.at1 p).clean.log = [] := hl
  have a4 : (S.at1 p).clean.failed = false := rfl
  have hc := h.clean
  generalize (S.at1 p).clean = T at *
  have := begin_write hc (by omega) a3 a4 f
  rwa [a1, a2] at this
theorem laid_ext {d f g : Nat → Nat} (o : Nat) (h : ∀ j, j < 512 → f j = g j) : laid d f o = laid d g o := by
  funext i
  unfold laid
  by_cases hi : o ≤ i ∧ i < o + 512
  · rw [if_pos hi, if_pos hi, h _ (by omega)]
  · rw [if_neg hi, if_neg hi]
theorem put1_buf (S : Dk) (b : Nat) : (S.put1 b).buf = upd S.buf S.done b := rfl
theorem put1_done (S : Dk) (b : Nat) : (S.put1 b).done = S.done + 1 := rfl
theorem flushAt_d (S : Dk) (o : Nat) : (S.flushAt o).d = laid S.d S.buf o := rfl
theorem flushAt_r (S : Dk) (o : Nat) : (S.flushAt o).r = S.r := rfl
theorem flushAt_n (S : Dk) (o : Nat) : (S.flushAt o).n = S.n := rfl
theorem flushAt_f (S : Dk) (o : Nat) : (S.flushAt o).failed = S.failed := rfl
theorem logAt_d (S : Dk) (p : Nat) : (S.logAt p).d = S.d := rfl
theorem logAt_r (S : Dk) (p : Nat) : (S.logAt p).r = S.r := rfl
theorem logAt_n (S : Dk) (p : Nat) : (S.logAt p).n = S.n := rfl
theorem logAt_f (S : Dk) (p : Nat) : (S.logAt p).failed = S.failed := rfl
theorem write_d (S : Dk) : S.write.d = laid S.d S.buf (S.place * 512) := by unfold Dk.write; rw [logAt_d, flushAt_d]
theorem write_r (S : Dk) : S.write.r = S.r := by unfold Dk.write; rw [logAt_r, flushAt_r]
theorem write_n (S : Dk) : S.write.n = S.n := by unfold Dk.write; rw [logAt_n, flushAt_n]
theorem write_f (S : Dk) : S.write.failed = S.failed := by unfold Dk.write; rw [logAt_f, flushAt_f]
theorem step_log2 (S : Dk) : S.step.log = S.log := rfl
/-- The last byte of the one sector. -/
theorem last_byte {p : Nat} {S : Dk} (h : Lies p 1 S) (hp : p < 64) : S.next.mode = 0 ∧ S.next.log = S.log ∧ S.next.d = S.d ∧ S.next.n = S.n ∧ S.next.failed = S.failed ∧ S.next.r 6 = 64 := by
  have hs := step_lies h (by omega)
  unfold Dk.next
  rw [if_pos (by rw [hs.r2])]
  exact ⟨rfl, rfl, rfl, rfl, rfl, hs.r6⟩
theorem mark_fields (S : Dk) (x : Bool) : ({ S with mark := x } : Dk).n = S.n ∧ ({ S with mark := x } : Dk).failed = S.failed ∧ ({ S with mark := x } : Dk).r = S.r ∧ ({ S with mark := x } : Dk).mode = S.mode ∧ ({ S with mark := x } : Dk).d = S.d := ⟨rfl, rfl, rfl, rfl, rfl⟩
theorem writing_put {n p k : Nat} {d f : Nat → Nat} {S : Dk} (h : Writing n d p f k S) (hk : k < 512) (hp : p < n) (hn : n ≤ 64) : Writing n d p f (k + 1) (S.putB (f k)) := by
  obtain ⟨m, dn, li, hd, hl, hb⟩ := h.on hk
  unfold Dk.putB
  rw [if_pos m]
  have hbuf : ∀ j, j < k + 1 → (S.put1 (f k)).buf j = f j := fun j hj => by
    rw [put1_buf, dn]
    by_cases e : j = k
    · subst e; exact upd_same _ _ _
    · rw [upd_ne _ _ _ _ e]; exact hb j (by omega)
  have l1 : Lies p 1 (S.put1 (f k)) := ⟨li.r6, li.r5, li.r4, li.r3, li.r2⟩
  by_cases hlast : k + 1 < 512
  · rw [if_pos (by rw [dn]; exact hlast)]
    exact ⟨h.hn, h.failed, li.r6, fun _ => ⟨m, (put1_done S _).trans (by rw [dn]), l1, hd, hl, hbuf⟩, fun e => by omega⟩
  · rw [if_neg (by rw [dn]; exact hlast), if_pos (by rw [li.place, h.hn]; exact hp)]
    have a1 : (S.put1 (f k)).n = n := h.hn
    have a2 : (S.put1 (f k)).failed = false := h.failed
    have a3 : (S.put1 (f k)).d = d := hd
    have a4 : (S.put1 (f k)).log = [] := hl
    generalize S.put1 (f k) = T at *
    have lw : Lies p 1 T.write := ⟨by rw [write_r]; exact l1.r6, by rw [write_r]; exact l1.r5, by rw [write_r]; exact l1.r4, by rw [write_r]; exact l1.r3, by rw [write_r]; exact l1.r2⟩
    have e1 := write_log T
    have e2 := write_d T
    have e3 := write_n T
    have e4 := write_f T
    rw [l1.place, a4] at e1
    rw [l1.place, a3] at e2
    rw [a1] at e3
    rw [a2] at e4
    rw [laid_ext (p * 512) (fun j hj => hbuf j (by omega))] at e2
    generalize T.write = U at *
    obtain ⟨b1, b2, b3, b4, b5, b6⟩ := last_byte lw (by omega)
    generalize U.next = V at *
    obtain ⟨c1, c2, c3, c4, c5⟩ := mark_fields V true
    exact ⟨c1.trans (b4.trans e3), c2.trans (b5.trans e4), (congrFun c3 6).trans b6, fun e => by omega, fun _ => ⟨c4.trans b1, (mark_log V true).trans (b2.trans e1), c5.trans (b3.trans e2)⟩⟩
theorem writing_other {n p k : Nat} {d f : Nat → Nat} {S : Dk} (h : Writing n d p f k S) : S.other = false := other_of h.lies (by decide)
theorem writing_puts {n p k : Nat} {d f : Nat → Nat} {S : Dk} (h : Writing n d p f k S) (hp : p < n) (hn : n ≤ 64) (v : Nat) :
    ∀ s, k + s ≤ 512 → (∀ j, j < s → v / 256 ^ j % 256 = f (k + j)) → Writing n d p f (k + s) (S.puts v s)
  | 0, _, _ => h
  | s + 1, hs, hv => by
    have ih := writing_puts h hp hn v s (by omega) fun j hj => hv j (by omega)
    rw [Dk.puts, writing_other ih, hv s (by omega)]
    have hlt : k + s < 512 := by omega
    exact writing_put ih hlt hp hn
theorem writing_out {n p k : Nat} {d f : Nat → Nat} {S : Dk} (h : Writing n d p f k S) (hp : p < n) (hn : n ≤ 64) (v s : Nat) (hs : s = 2 ∨ s = 4) (hk : k + s ≤ 512) (hv : ∀ j, j < s → v / 256 ^ j % 256 = f (k + j)) : Writing n d p f (k + s) (S.out 0 s v) := by
  have e : S.out 0 s v = S.puts v s := by
    unfold Dk.out
    rw [if_neg (by rcases hs with rfl | rfl <;> decide), if_pos rfl]; rfl
  rw [e]
  exact writing_puts h hp hn v s hk hv
/-- The sector is read again. -/
theorem sect_read {n p : Nat} {d : Nat → Nat} {S : Dk} (hn : S.n = n) (hd : S.d = d) (hp : p < n) (hn64 : n ≤ 64) : Reading n d ((p + 1) * 512) (p * 512) S.log (S.sect 32 p) := by
  have h := Lies.at1 S p (by omega)
  unfold Dk.sect
  rw [h.read]
  have a1 : (S.at1 p).clean.n = n := hn
  have a2 : (S.at1 p).clean.d = d := hd
  have a3 : (S.at1 p).clean.log = S.log := rfl
  have a4 : (S.at1 p).clean.failed = false := rfl
  have hc := h.clean
  generalize (S.at1 p).clean = T at *
  have := begin_read hc (by omega) (by decide) a4
  rwa [a1, a2, a3] at this
/-- At's, a block of the world below turned at both ends. -/
theorem At.touch {w0 w : World} {b g : Nat} {D : Dk} (h : At w0 w b D) (hg : g < w0.heap.size) (k : Nat) (v : Value) : At (w0.setCell ⟨g, k, none⟩ v) (w.setCell ⟨g, k, none⟩ v) b D := by
  obtain ⟨ds, lv, H, R, N, B⟩ := h
  have hs0 : (w0.setCell ⟨g, k, none⟩ v).heap.size = w0.heap.size := by simp [World.setCell]
  have hs : (w.setCell ⟨g, k, none⟩ v).heap.size = w.heap.size := by simp [World.setCell]
  refine ⟨ds, lv, H.of_heap fun i hi => heap_set_other _ ?_, R, fun i hi => by rw [hs0]; exact N i hi, ?_⟩
  · intro e
    have := N i hi
    have e2 : i = g := e
    omega
  · rw [hs0]
    refine ⟨B.os, B.tape, B.output, by rw [hs0, hs]; exact B.size, fun i hi => ?_⟩
    by_cases e : i = g
    · subst e
      rw [heap_set_map, heap_set_map, B.block i hi]
    · rw [heap_set_other (b := i) _ e, heap_set_other (b := i) _ e, B.block i hi]
end Go.Proofs.Ytebhnfoehgpilaa
