/- ide's laws: what a disk tells, and reads; in plain words. -/
import Derived.Test.YtebhnfoehgpilaaIdeO
namespace Go.Proofs.Ytebhnfoehgpilaa
open Go.RowKit
set_option linter.unusedVariables false

theorem inV_0 {S : Dk} (ho : S.other = false) (s : Nat) (hs : s = 1 ∨ s = 2 ∨ s = 4) : S.inV 0 s = S.getV s := by
  unfold Dk.inV
  rw [if_neg (by rcases hs with rfl | rfl | rfl <;> decide), if_neg (by rw [ho]; simp), if_pos rfl]; rfl
theorem inS_0 {S : Dk} (ho : S.other = false) (s : Nat) (hs : s = 1 ∨ s = 2 ∨ s = 4) : S.inS 0 s = S.getN s := by
  unfold Dk.inS
  rw [if_neg (by rcases hs with rfl | rfl | rfl <;> decide), if_neg (by rw [ho]; simp), if_pos rfl]; rfl
theorem other_of {S : Dk} {x : Nat} (h : S.r 6 = x) (hx : x / 16 % 2 = 0) : S.other = false := by unfold Dk.other; rw [h, hx]; rfl

/-- The disk tells of itself. -/
structure Telling (n : Nat) (d : Nat → Nat) (k : Nat) (S : Dk) : Prop where
  hn : S.n = n
  hd : S.d = d
  r6 : S.r 6 = 0
  buf : S.buf = tellBuf n
  done : S.done = k
  mode : S.mode = if k < 512 then 3 else 0
  log : S.log = []
theorem telling_get {n k : Nat} {d : Nat → Nat} {S : Dk} (h : Telling n d k S) (hk : k < 512) : S.gets = tellBuf n k ∧ Telling n d (k + 1) S.getB := by
  have hm := h.mode
  rw [if_pos hk] at hm
  constructor
  · unfold Dk.gets; rw [if_pos (.inr hm), h.buf, h.done]
  · unfold Dk.getB
    rw [if_pos (.inr hm), h.done]
    by_cases hl : k + 1 < 512
    · rw [if_pos hl]; exact ⟨h.hn, h.hd, h.r6, h.buf, rfl, by rw [if_pos hl]; exact hm, h.log⟩
    · rw [if_neg hl, if_pos hm]; exact ⟨h.hn, h.hd, h.r6, h.buf, rfl, by rw [if_neg hl], h.log⟩
theorem getV1 (S : Dk) : S.getV 1 = S.gets := by show 0 + S.gets * 256 ^ 0 = _; omega
theorem getV2 (S : Dk) : S.getV 2 = S.gets + S.getB.gets * 256 := by show 0 + S.gets * 256 ^ 0 + S.getB.gets * 256 ^ 1 = _; omega
theorem telling_in {n i : Nat} {d : Nat → Nat} {S : Dk} (h : Telling n d (2 * i) S) (hi : i < 256) :
    S.inV 0 2 = tellBuf n (2 * i) + tellBuf n (2 * i + 1) * 256 ∧ Telling n d (2 * (i + 1)) (S.inS 0 2) := by
  have ho := other_of h.r6 (by decide)
  have e1 := inV_0 ho 2 (by omega)
  have e2 := inS_0 ho 2 (by omega)
  obtain ⟨g1, h1⟩ := telling_get h (by omega)
  obtain ⟨g2, h2⟩ := telling_get h1 (by omega)
  constructor
  · rw [show ((2 : Nat) : Int) = 2 from rfl] at e1; rw [e1, getV2, g1, g2]
  · rw [show ((2 : Nat) : Int) = 2 from rfl] at e2; rw [e2]; exact h2
theorem out_cmd (S : Dk) (c : Nat) : S.out 7 1 c = S.command (c % 256) := rfl
theorem cmd_236 {S : Dk} (ho : S.other = false) : S.command 236 = { S.clean with buf := tellBuf S.n, mode := 3, done := 0, mark := true } := by
  unfold Dk.command; rw [ho, if_neg (by decide), if_neg (by decide), if_neg (by decide), if_pos rfl]
theorem telling_start (n : Nat) (d : Nat → Nat) : Telling n d 0 ((Dk.new n d).out 7 1 236) := by
  have ho : (Dk.new n d).other = false := other_of (x := 0) (by unfold Dk.new Dk.fresh; dsimp only; rw [upd_same]) (by decide)
  have e : (Dk.new n d).out 7 1 236 = { (Dk.new n d).clean with buf := tellBuf (Dk.new n d).n, mode := 3, done := 0, mark := true } := (out_cmd _ _).trans (cmd_236 ho)
  rw [e]
  exact ⟨rfl, rfl, rfl, rfl, rfl, (if_pos (by decide)).symm, rfl⟩

-- A READ FROM A PLACE ON
theorem at1_6 (S : Dk) (p : Nat) : (S.at1 p).r 6 = 64 := rfl
theorem at1_5 (S : Dk) (p : Nat) : (S.at1 p).r 5 = 0 := rfl
theorem at1_4 (S : Dk) (p : Nat) : (S.at1 p).r 4 = 0 := rfl
theorem at1_3 (S : Dk) (p : Nat) : (S.at1 p).r 3 = p % 256 := rfl
theorem at1_2 (S : Dk) (p : Nat) : (S.at1 p).r 2 = 1 := rfl
theorem at1_n (S : Dk) (p : Nat) : (S.at1 p).n = S.n := rfl
theorem at1_d (S : Dk) (p : Nat) : (S.at1 p).d = S.d := rfl
theorem at1_log (S : Dk) (p : Nat) : (S.at1 p).log = S.log := rfl
/-- The registers of a place below 256, seen as LBA. -/
structure Lies (f c : Nat) (S : Dk) : Prop where
  r6 : S.r 6 = 64
  r5 : S.r 5 = 0
  r4 : S.r 4 = 0
  r3 : S.r 3 = f
  r2 : S.r 2 = c
theorem Lies.at1 (S : Dk) (p : Nat) (hp : p < 256) : Lies p 1 (S.at1 p) := ⟨rfl, rfl, rfl, (at1_3 S p).trans (Nat.mod_eq_of_lt hp), rfl⟩
theorem Lies.place {f c : Nat} {S : Dk} (h : Lies f c S) : S.place = f := by unfold Dk.place; rw [h.r3, h.r4, h.r5, h.r6]; omega
theorem Lies.clean {f c : Nat} {S : Dk} (h : Lies f c S) : Lies f c S.clean := ⟨h.r6, h.r5, h.r4, h.r3, h.r2⟩
theorem Lies.other {f c : Nat} {S : Dk} (h : Lies f c S) : S.other = false := other_of h.r6 (by decide)
theorem Lies.read {f c : Nat} {S : Dk} (h : Lies f c S) : S.out 7 1 32 = S.clean.begin 1 := by
  rw [out_cmd]; unfold Dk.command
  rw [h.other, if_neg (by decide), if_pos (.inl (by decide)), h.r6, if_neg (by decide)]
theorem Lies.writes {f c : Nat} {S : Dk} (h : Lies f c S) : S.out 7 1 48 = S.clean.begin 2 := by
  rw [out_cmd]; unfold Dk.command
  rw [h.other, if_neg (by decide), if_neg (by decide), if_pos (.inl (by decide)), h.r6, if_neg (by decide)]
structure Reading (n : Nat) (d : Nat → Nat) (e i : Nat) (L : List Nat) (S : Dk) : Prop where
  hn : S.n = n
  hd : S.d = d
  log : S.log = L
  failed : S.failed = false
  r6 : S.r 6 = 64
  on : i < e → S.mode = 1 ∧ S.done = i % 512 ∧ Lies (i / 512) (e / 512 - i / 512) S ∧ ∀ k, k < 512 → S.buf k = d (i / 512 * 512 + k)
  off : e ≤ i → S.mode = 0
theorem step_r6 (S : Dk) : S.step.r 6 = S.r 6 / 16 * 16 + (S.place + 1) / 16777216 % 16 := by simp only [Dk.step]; rw [upd_ne _ _ _ _ (by decide), upd_same]
theorem step_r5 (S : Dk) : S.step.r 5 = (S.place + 1) / 65536 % 256 := by simp only [Dk.step]; rw [upd_ne _ _ _ _ (by decide), upd_ne _ _ _ _ (by decide), upd_same]
theorem step_r4 (S : Dk) : S.step.r 4 = (S.place + 1) / 256 % 256 := by simp only [Dk.step]; rw [upd_ne _ _ _ _ (by decide), upd_ne _ _ _ _ (by decide), upd_ne _ _ _ _ (by decide), upd_same]
theorem step_r3 (S : Dk) : S.step.r 3 = (S.place + 1) % 256 := by simp only [Dk.step]; rw [upd_ne _ _ _ _ (by decide), upd_ne _ _ _ _ (by decide), upd_ne _ _ _ _ (by decide), upd_ne _ _ _ _ (by decide), upd_same]
theorem step_r2 (S : Dk) : S.step.r 2 = (S.r 2 + 255) % 256 := by simp only [Dk.step]; rw [upd_same]
theorem step_lies {f c : Nat} {S : Dk} (h : Lies f c S) (hf : f + 1 < 256) : Lies (f + 1) ((c + 255) % 256) S.step := by
  have hp := h.place
  refine ⟨?_, ?_, ?_, ?_, ?_⟩
  · rw [step_r6, hp, h.r6]; omega
  · rw [step_r5, hp]; omega
  · rw [step_r4, hp]; omega
  · rw [step_r3, hp]; omega
  · rw [step_r2, h.r2]
theorem begin_read {f c : Nat} {S : Dk} (h : Lies f c S) (hf : f < S.n) (hc : 0 < c) (ff : S.failed = false) : Reading S.n S.d ((f + c) * 512) (f * 512) S.log (S.begin 1) := by
  have hp := h.place
  unfold Dk.begin
  rw [hp, if_pos hf, if_pos rfl]
  refine ⟨rfl, rfl, rfl, ff, h.r6, fun _ => ⟨rfl, ?_, ?_, ?_⟩, fun hle => ?_⟩
  · show 0 = f * 512 % 512; omega
  · rw [show f * 512 / 512 = f by omega, show (f + c) * 512 / 512 - f = c by omega]
    exact ⟨h.r6, h.r5, h.r4, h.r3, h.r2⟩
  · intro k hk
    show S.d (f * 512 + k) = _
    rw [show f * 512 / 512 = f by omega]
  · exfalso; have : f * 512 < (f + c) * 512 := Nat.mul_lt_mul_of_pos_right (by omega) (by decide); omega
theorem done_lies {f c : Nat} {S : Dk} (h : Lies f c S) (x : Nat) : Lies f c { S with done := x } := ⟨h.r6, h.r5, h.r4, h.r3, h.r2⟩
theorem step_f (S : Dk) : S.step.failed = S.failed := rfl
theorem step_n (S : Dk) : S.step.n = S.n := rfl
theorem step_d (S : Dk) : S.step.d = S.d := rfl
theorem step_m (S : Dk) : S.step.mode = 0 := rfl
theorem done_mode (S : Dk) (x : Nat) : ({ S with done := x } : Dk).mode = S.mode := rfl
theorem reading_get {n e i : Nat} {d : Nat → Nat} {L : List Nat} {S : Dk} (h : Reading n d e i L S) (hi : i < e) (he : e % 512 = 0) (hn : n ≤ 64) (hen : e ≤ n * 512) :
    S.gets = d i ∧ Reading n d e (i + 1) L S.getB := by
  obtain ⟨m, dn, li, hb⟩ := h.on hi
  constructor
  · unfold Dk.gets; rw [if_pos (.inl m), dn, hb _ (by omega)]; congr 1; omega
  · unfold Dk.getB
    rw [if_pos (.inl m)]
    by_cases hl : S.done + 1 < 512
    · rw [if_pos hl]
      refine ⟨h.hn, h.hd, h.log, h.failed, h.r6, fun _ => ⟨m, ?_, ?_, ?_⟩, fun h2 => ?_⟩
      · show S.done + 1 = _; omega
      · rw [show (i + 1) / 512 = i / 512 by omega]; exact done_lies li _
      · rw [show (i + 1) / 512 = i / 512 by omega]; exact hb
      · omega
    · rw [if_neg hl, if_neg (by omega)]
      have hl2 := done_lies li (S.done + 1)
      have hst := step_lies hl2 (by omega)
      have a1 : ({ S with done := S.done + 1 } : Dk).n = n := h.hn
      have a2 : ({ S with done := S.done + 1 } : Dk).d = d := h.hd
      have a3 : ({ S with done := S.done + 1 } : Dk).log = L := h.log
      have a4 : ({ S with done := S.done + 1 } : Dk).failed = false := h.failed
      have a5 : ({ S with done := S.done + 1 } : Dk).mode = 1 := m
      generalize ({ S with done := S.done + 1 } : Dk) = T at *
      unfold Dk.next
      by_cases hz : T.step.r 2 = 0
      · rw [if_pos hz]
        rw [hst.r2] at hz
        refine ⟨a1, a2, a3, a4, hst.r6, fun h2 => ?_, fun _ => rfl⟩
        omega
      · rw [if_neg hz, a5]
        rw [hst.r2] at hz
        have hrd := begin_read hst (show i / 512 + 1 < T.step.n by rw [step_n, a1]; omega) (by omega) a4
        rw [step_n, step_d, step_log, a1, a2, a3] at hrd
        rwa [show (i / 512 + 1 + (e / 512 - i / 512 + 255) % 256) * 512 = e by omega, show (i / 512 + 1) * 512 = i + 1 by omega] at hrd
theorem reading_in {n e i : Nat} {d : Nat → Nat} {L : List Nat} {S : Dk} (h : Reading n d e i L S) (hi : i < e) (he : e % 512 = 0) (hn : n ≤ 64) (hen : e ≤ n * 512) :
    S.inV 0 1 = d i ∧ Reading n d e (i + 1) L (S.inS 0 1) := by
  have ho := other_of h.r6 (by decide)
  have e1 := inV_0 ho 1 (by omega)
  have e2 := inS_0 ho 1 (by omega)
  obtain ⟨g1, h1⟩ := reading_get h hi he hn hen
  rw [show ((1 : Nat) : Int) = 1 from rfl] at e1 e2
  exact ⟨by rw [e1, getV1, g1], by rw [e2]; exact h1⟩
theorem inV_7 {S : Dk} (ho : S.other = false) : S.inV 7 1 = S.status := by
  unfold Dk.inV
  rw [if_neg (by decide), if_neg (by rw [ho]; simp), if_neg (by decide), if_neg (by decide)]
theorem inS_7 {S : Dk} (ho : S.other = false) : S.inS 7 1 = S.setMark false := by
  unfold Dk.inS
  rw [if_neg (by decide), if_neg (by rw [ho]; simp), if_neg (by decide), if_neg (by decide)]
  congr 1
  cases S.mark <;> rfl
theorem reading_end {n e : Nat} {d : Nat → Nat} {L : List Nat} {S : Dk} (h : Reading n d e e L S) : S.inV 7 1 = 80 ∧ (S.inS 7 1).inV 0 1 = 255 := by
  have ho := other_of h.r6 (by decide)
  have hm := h.off (Nat.le_refl _)
  constructor
  · rw [inV_7 ho]; unfold Dk.status; rw [if_pos hm, h.failed]; rfl
  · rw [inS_7 ho]
    have e1 := inV_0 (S := S.setMark false) ho 1 (by omega)
    rw [show ((1 : Nat) : Int) = 1 from rfl] at e1
    rw [e1, getV1]
    unfold Dk.gets
    rw [if_neg (by show ¬ (S.mode = 1 ∨ S.mode = 3); rw [hm]; decide)]
/-- A place that there is not. -/
theorem sect_none (S : Dk) (p : Nat) (hp : p < 256) (hn : S.n ≤ p) :
    (S.sect 32 p).inV 7 1 = 81 ∧ ((S.sect 32 p).inS 7 1).inV 1 1 = 16 ∧ Lies p 1 (((S.sect 32 p).inS 7 1).inS 1 1) ∧ (((S.sect 32 p).inS 7 1).inS 1 1).n = S.n ∧ (((S.sect 32 p).inS 7 1).inS 1 1).d = S.d ∧ (((S.sect 32 p).inS 7 1).inS 1 1).log = S.log := by
  have hl := Lies.at1 S p hp
  have e : S.sect 32 p = (S.at1 p).clean.fail 16 := by
    unfold Dk.sect
    rw [hl.read]
    unfold Dk.begin
    rw [hl.clean.place, if_neg (by show ¬ p < S.n; omega)]
  rw [e]
  have hl2 : Lies p 1 ((S.at1 p).clean.fail 16) := ⟨rfl, rfl, rfl, hl.r3, rfl⟩
  generalize hT : (S.at1 p).clean.fail 16 = T at hl2
  have t1 : T.mode = 0 := by rw [← hT]; rfl
  have t2 : T.failed = true := by rw [← hT]; rfl
  have t3 : T.r 1 = 16 := by rw [← hT]; rfl
  have t4 : T.n = S.n := by rw [← hT]; rfl
  have t5 : T.d = S.d := by rw [← hT]; rfl
  have t6 : T.log = S.log := by rw [← hT]; rfl
  have e7 := inS_7 hl2.other
  have ho : (T.setMark false).other = false := hl2.other
  have e8 : (T.setMark false).inS 1 1 = T.setMark false := by
    unfold Dk.inS
    rw [if_neg (by decide), if_neg (by rw [ho]; simp), if_neg (by decide), if_pos (by decide)]
  have e9 : (T.setMark false).inV 1 1 = T.r 1 := by
    unfold Dk.inV
    rw [if_neg (by decide), if_neg (by rw [ho]; simp), if_neg (by decide), if_pos (by decide)]; rfl
  refine ⟨?_, ?_, ?_, ?_, ?_, ?_⟩
  · rw [inV_7 hl2.other]; unfold Dk.status; rw [t1, t2]; rfl
  · rw [e7, e9, t3]
  · rw [e7, e8]; exact ⟨hl2.r6, hl2.r5, hl2.r4, hl2.r3, hl2.r2⟩
  · rw [e7, e8]; exact t4
  · rw [e7, e8]; exact t5
  · rw [e7, e8]; exact t6
/-- Then several sectors from a place that there is. -/
theorem then_read {p : Nat} {S : Dk} (h : Lies p 1 S) (f c : Nat) (hf : f < S.n) (hc : 0 < c) (hn : S.n ≤ 64) (hfc : f + c ≤ S.n) :
    Reading S.n S.d ((f + c) * 512) (f * 512) S.log (((S.out 3 1 f).out 2 1 c).out 7 1 32) := by
  have e : (S.out 3 1 f).out 2 1 c = (S.setR 3 (f % 256)).setR 2 (c % 256) := rfl
  have hl : Lies f c ((S.out 3 1 f).out 2 1 c) := by
    rw [e]
    refine ⟨h.r6, h.r5, h.r4, ?_, ?_⟩
    · show f % 256 = f; omega
    · show c % 256 = c; omega
  rw [hl.read]
  have a1 : ((S.out 3 1 f).out 2 1 c).clean.n = S.n := rfl
  have a2 : ((S.out 3 1 f).out 2 1 c).clean.d = S.d := rfl
  have a3 : ((S.out 3 1 f).out 2 1 c).clean.log = S.log := rfl
  have a4 : ((S.out 3 1 f).out 2 1 c).clean.failed = false := rfl
  have hl2 := hl.clean
  generalize ((S.out 3 1 f).out 2 1 c).clean = T at *
  have := begin_read hl2 (by omega) hc a4
  rwa [a1, a2, a3] at this
end Go.Proofs.Ytebhnfoehgpilaa
