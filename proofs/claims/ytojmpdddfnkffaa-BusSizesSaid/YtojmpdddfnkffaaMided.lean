/- IdeP IdeQ IdeR IdeV IdeW IdeX IdeY IdeZ IdeRa IdeRb, together. -/
import Derived.Test.YtojmpdddfnkffaaMidec
import Derived.Test.YtojmpdddfnkffaaIn
import Derived.Laws.BytesArg
import Derived.Deep.CutRange
import Derived.Laws.Tables
import Derived.Laws.Rows
import Derived.Deep.MidRow
import Derived.Test.YtojmpdddfnkffaaMideb
import Derived.Laws.AppendOwnNone
/- ide's laws: what a disk tells, and reads; in plain words. -/
namespace Go.Proofs.Ytojmpdddfnkffaa.Ide
open Go.RowKit
set_option linter.unusedVariables false

theorem inV_0 {S : Dk} (ho : S.other = false) (s : Nat) (hs : s = 1 ∨ s = 2 ∨ s = 4) : S.inV 0 s = S.getV s := by
  unfold Dk.inV
  rw [if_neg (by rcases hs with rfl | rfl | rfl <;> decide), if_neg (by rw [ho]; simp), if_pos rfl]; rfl
theorem inS_0 {S : Dk} (ho : S.other = false) (s : Nat) (hs : s = 1 ∨ s = 2 ∨ s = 4) : S.inS 0 s = S.getN s := by
  unfold Dk.inS
  rw [if_neg (by rcases hs with rfl | rfl | rfl <;> decide), if_neg (by rw [ho]; simp), if_pos rfl]; rfl
theorem other_of {S : Dk} {x : Nat} (h : S.r 6 = x) (hx : x / 16 % 2 = 0) : S.other = false := by unfold Dk.other; rw [h, hx]; rfl

/-- The disk tells of itself. -/
structure Telling (n : Nat) (d : Nat → Nat) (k : Nat) (S : Dk) : Prop where
  hn : S.n = n
  hd : S.d = d
  r6 : S.r 6 = 0
  buf : S.buf = tellBuf n
  done : S.done = k
  mode : S.mode = if k < 512 then 3 else 0
  log : S.log = []
theorem telling_get {n k : Nat} {d : Nat → Nat} {S : Dk} (h : Telling n d k S) (hk : k < 512) : S.gets = tellBuf n k ∧ Telling n d (k + 1) S.getB := by
  have hm := h.mode
  rw [if_pos hk] at hm
  constructor
  · unfold Dk.gets; rw [if_pos (.inr hm), h.buf, h.done]
  · unfold Dk.getB
    rw [if_pos (.inr hm), h.done]
    by_cases hl : k + 1 < 512
    · rw [if_pos hl]; exact ⟨h.hn, h.hd, h.r6, h.buf, rfl, by rw [if_pos hl]; exact hm, h.log⟩
    · rw [if_neg hl, if_pos hm]; exact ⟨h.hn, h.hd, h.r6, h.buf, rfl, by rw [if_neg hl], h.log⟩
theorem getV1 (S : Dk) : S.getV 1 = S.gets := by show 0 + S.gets * 256 ^ 0 = _; omega
theorem getV2 (S : Dk) : S.getV 2 = S.gets + S.getB.gets * 256 := by show 0 + S.gets * 256 ^ 0 + S.getB.gets * 256 ^ 1 = _; omega
theorem telling_in {n i : Nat} {d : Nat → Nat} {S : Dk} (h : Telling n d (2 * i) S) (hi : i < 256) :
    S.inV 0 2 = tellBuf n (2 * i) + tellBuf n (2 * i + 1) * 256 ∧ Telling n d (2 * (i + 1)) (S.inS 0 2) := by
  have ho := other_of h.r6 (by decide)
  have e1 := inV_0 ho 2 (by omega)
  have e2 := inS_0 ho 2 (by omega)
  obtain ⟨g1, h1⟩ := telling_get h (by omega)
  obtain ⟨g2, h2⟩ := telling_get h1 (by omega)
  constructor
  · rw [show ((2 : Nat) : Int) = 2 from rfl] at e1; rw [e1, getV2, g1, g2]
  · rw [show ((2 : Nat) : Int) = 2 from rfl] at e2; rw [e2]; exact h2
theorem out_cmd (S : Dk) (c : Nat) : S.out 7 1 c = S.command (c % 256) := rfl
theorem cmd_236 {S : Dk} (ho : S.other = false) : S.command 236 = { S.clean with buf := tellBuf S.n, mode := 3, done := 0, mark := true } := by
  unfold Dk.command; rw [ho, if_neg (by decide), if_neg (by decide), if_neg (by decide), if_pos rfl]
theorem telling_start (n : Nat) (d : Nat → Nat) : Telling n d 0 ((Dk.new n d).out 7 1 236) := by
  have ho : (Dk.new n d).other = false := other_of (x := 0) (by unfold Dk.new Dk.fresh; dsimp only; rw [upd_same]) (by decide)
  have e : (Dk.new n d).out 7 1 236 = { (Dk.new n d).clean with buf := tellBuf (Dk.new n d).n, mode := 3, done := 0, mark := true } := (out_cmd _ _).trans (cmd_236 ho)
  rw [e]
  exact ⟨rfl, rfl, rfl, rfl, rfl, (if_pos (by decide)).symm, rfl⟩

-- A READ FROM A PLACE ON
theorem at1_6 (S : Dk) (p : Nat) : (S.at1 p).r 6 = 64 := rfl
theorem at1_5 (S : Dk) (p : Nat) : (S.at1 p).r 5 = 0 := rfl
theorem at1_4 (S : Dk) (p : Nat) : (S.at1 p).r 4 = 0 := rfl
theorem at1_3 (S : Dk) (p : Nat) : (S.at1 p).r 3 = p % 256 := rfl
theorem at1_2 (S : Dk) (p : Nat) : (S.at1 p).r 2 = 1 := rfl
theorem at1_n (S : Dk) (p : Nat) : (S.at1 p).n = S.n := rfl
theorem at1_d (S : Dk) (p : Nat) : (S.at1 p).d = S.d := rfl
theorem at1_log (S : Dk) (p : Nat) : (S.at1 p).log = S.log := rfl
/-- The registers of a place below 256, seen as LBA. -/
structure Lies (f c : Nat) (S : Dk) : Prop where
  r6 : S.r 6 = 64
  r5 : S.r 5 = 0
  r4 : S.r 4 = 0
  r3 : S.r 3 = f
  r2 : S.r 2 = c
theorem Lies.at1 (S : Dk) (p : Nat) (hp : p < 256) : Lies p 1 (S.at1 p) := ⟨rfl, rfl, rfl, (at1_3 S p).trans (Nat.mod_eq_of_lt hp), rfl⟩
theorem Lies.place {f c : Nat} {S : Dk} (h : Lies f c S) : S.place = f := by unfold Dk.place; rw [h.r3, h.r4, h.r5, h.r6]; omega
theorem Lies.clean {f c : Nat} {S : Dk} (h : Lies f c S) : Lies f c S.clean := ⟨h.r6, h.r5, h.r4, h.r3, h.r2⟩
theorem Lies.other {f c : Nat} {S : Dk} (h : Lies f c S) : S.other = false := other_of h.r6 (by decide)
theorem Lies.read {f c : Nat} {S : Dk} (h : Lies f c S) : S.out 7 1 32 = S.clean.begin 1 := by
  rw [out_cmd]; unfold Dk.command
  rw [h.other, if_neg (by decide), if_pos (.inl (by decide)), h.r6, if_neg (by decide)]
theorem Lies.writes {f c : Nat} {S : Dk} (h : Lies f c S) : S.out 7 1 48 = S.clean.begin 2 := by
  rw [out_cmd]; unfold Dk.command
  rw [h.other, if_neg (by decide), if_neg (by decide), if_pos (.inl (by decide)), h.r6, if_neg (by decide)]
structure Reading (n : Nat) (d : Nat → Nat) (e i : Nat) (L : List Nat) (S : Dk) : Prop where
  hn : S.n = n
  hd : S.d = d
  log : S.log = L
  failed : S.failed = false
  r6 : S.r 6 = 64
  on : i < e → S.mode = 1 ∧ S.done = i % 512 ∧ Lies (i / 512) (e / 512 - i / 512) S ∧ ∀ k, k < 512 → S.buf k = d (i / 512 * 512 + k)
  off : e ≤ i → S.mode = 0
theorem step_r6 (S : Dk) : S.step.r 6 = S.r 6 / 16 * 16 + (S.place + 1) / 16777216 % 16 := by simp only [Dk.step]; rw [upd_ne _ _ _ _ (by decide), upd_same]
theorem step_r5 (S : Dk) : S.step.r 5 = (S.place + 1) / 65536 % 256 := by simp only [Dk.step]; rw [upd_ne _ _ _ _ (by decide), upd_ne _ _ _ _ (by decide), upd_same]
theorem step_r4 (S : Dk) : S.step.r 4 = (S.place + 1) / 256 % 256 := by simp only [Dk.step]; rw [upd_ne _ _ _ _ (by decide), upd_ne _ _ _ _ (by decide), upd_ne _ _ _ _ (by decide), upd_same]
theorem step_r3 (S : Dk) : S.step.r 3 = (S.place + 1) % 256 := by simp only [Dk.step]; rw [upd_ne _ _ _ _ (by decide), upd_ne _ _ _ _ (by decide), upd_ne _ _ _ _ (by decide), upd_ne _ _ _ _ (by decide), upd_same]
theorem step_r2 (S : Dk) : S.step.r 2 = (S.r 2 + 255) % 256 := by simp only [Dk.step]; rw [upd_same]
theorem step_lies {f c : Nat} {S : Dk} (h : Lies f c S) (hf : f + 1 < 256) : Lies (f + 1) ((c + 255) % 256) S.step := by
  have hp := h.place
  refine ⟨?_, ?_, ?_, ?_, ?_⟩
  · rw [step_r6, hp, h.r6]; omega
  · rw [step_r5, hp]; omega
  · rw [step_r4, hp]; omega
  · rw [step_r3, hp]; omega
  · rw [step_r2, h.r2]
theorem begin_read {f c : Nat} {S : Dk} (h : Lies f c S) (hf : f < S.n) (hc : 0 < c) (ff : S.failed = false) : Reading S.n S.d ((f + c) * 512) (f * 512) S.log (S.begin 1) := by
  have hp := h.place
  unfold Dk.begin
  rw [hp, if_pos hf, if_pos rfl]
  refine ⟨rfl, rfl, rfl, ff, h.r6, fun _ => ⟨rfl, ?_, ?_, ?_⟩, fun hle => ?_⟩
  · show 0 = f * 512 % 512; omega
  · rw [show f * 512 / 512 = f by omega, show (f + c) * 512 / 512 - f = c by omega]
    exact ⟨h.r6, h.r5, h.r4, h.r3, h.r2⟩
  · intro k hk
    show S.d (f * 512 + k) = _
    rw [show f * 512 / 512 = f by omega]
  · exfalso; have : f * 512 < (f + c) * 512 := Nat.mul_lt_mul_of_pos_right (by omega) (by decide); omega
theorem done_lies {f c : Nat} {S : Dk} (h : Lies f c S) (x : Nat) : Lies f c { S with done := x } := ⟨h.r6, h.r5, h.r4, h.r3, h.r2⟩
theorem step_f (S : Dk) : S.step.failed = S.failed := rfl
theorem step_n (S : Dk) : S.step.n = S.n := rfl
theorem step_d (S : Dk) : S.step.d = S.d := rfl
theorem step_m (S : Dk) : S.step.mode = 0 := rfl
theorem done_mode (S : Dk) (x : Nat) : ({ S with done := x } : Dk).mode = S.mode := rfl
theorem reading_get {n e i : Nat} {d : Nat → Nat} {L : List Nat} {S : Dk} (h : Reading n d e i L S) (hi : i < e) (he : e % 512 = 0) (hn : n ≤ 64) (hen : e ≤ n * 512) :
    S.gets = d i ∧ Reading n d e (i + 1) L S.getB := by
  obtain ⟨m, dn, li, hb⟩ := h.on hi
  constructor
  · unfold Dk.gets; rw [if_pos (.inl m), dn, hb _ (by omega)]; congr 1; omega
  · unfold Dk.getB
    rw [if_pos (.inl m)]
    by_cases hl : S.done + 1 < 512
    · rw [if_pos hl]
      refine ⟨h.hn, h.hd, h.log, h.failed, h.r6, fun _ => ⟨m, ?_, ?_, ?_⟩, fun h2 => ?_⟩
      · show S.done + 1 = _; omega
      · rw [show (i + 1) / 512 = i / 512 by omega]; exact done_lies li _
      · rw [show (i + 1) / 512 = i / 512 by omega]; exact hb
      · omega
    · rw [if_neg hl, if_neg (by omega)]
      have hl2 := done_lies li (S.done + 1)
      have hst := step_lies hl2 (by omega)
      have a1 : ({ S with done := S.done + 1 } : Dk).n = n := h.hn
      have a2 : ({ S with done := S.done + 1 } : Dk).d = d := h.hd
      have a3 : ({ S with done := S.done + 1 } : Dk).log = L := h.log
      have a4 : ({ S with done := S.done + 1 } : Dk).failed = false := h.failed
      have a5 : ({ S with done := S.done + 1 } : Dk).mode = 1 := m
      generalize ({ S with done := S.done + 1 } : Dk) = T at *
      unfold Dk.next
      by_cases hz : T.step.r 2 = 0
      · rw [if_pos hz]
        rw [hst.r2] at hz
        refine ⟨a1, a2, a3, a4, hst.r6, fun h2 => ?_, fun _ => rfl⟩
        omega
      · rw [if_neg hz, a5]
        rw [hst.r2] at hz
        have hrd := begin_read hst (show i / 512 + 1 < T.step.n by rw [step_n, a1]; omega) (by omega) a4
        rw [step_n, step_d, step_log, a1, a2, a3] at hrd
        rwa [show (i / 512 + 1 + (e / 512 - i / 512 + 255) % 256) * 512 = e by omega, show (i / 512 + 1) * 512 = i + 1 by omega] at hrd
theorem reading_in {n e i : Nat} {d : Nat → Nat} {L : List Nat} {S : Dk} (h : Reading n d e i L S) (hi : i < e) (he : e % 512 = 0) (hn : n ≤ 64) (hen : e ≤ n * 512) :
    S.inV 0 1 = d i ∧ Reading n d e (i + 1) L (S.inS 0 1) := by
  have ho := other_of h.r6 (by decide)
  have e1 := inV_0 ho 1 (by omega)
  have e2 := inS_0 ho 1 (by omega)
  obtain ⟨g1, h1⟩ := reading_get h hi he hn hen
  rw [show ((1 : Nat) : Int) = 1 from rfl] at e1 e2
  exact ⟨by rw [e1, getV1, g1], by rw [e2]; exact h1⟩
theorem inV_7 {S : Dk} (ho : S.other = false) : S.inV 7 1 = S.status := by
  unfold Dk.inV
  rw [if_neg (by decide), if_neg (by rw [ho]; simp), if_neg (by decide), if_neg (by decide)]
theorem inS_7 {S : Dk} (ho : S.other = false) : S.inS 7 1 = S.setMark false := by
  unfold Dk.inS
  rw [if_neg (by decide), if_neg (by rw [ho]; simp), if_neg (by decide), if_neg (by decide)]
  congr 1
  cases S.mark <;> rfl
theorem reading_end {n e : Nat} {d : Nat → Nat} {L : List Nat} {S : Dk} (h : Reading n d e e L S) : S.inV 7 1 = 80 ∧ (S.inS 7 1).inV 0 1 = 255 := by
  have ho := other_of h.r6 (by decide)
  have hm := h.off (Nat.le_refl _)
  constructor
  · rw [inV_7 ho]; unfold Dk.status; rw [if_pos hm, h.failed]; rfl
  · rw [inS_7 ho]
    have e1 := inV_0 (S := S.setMark false) ho 1 (by omega)
    rw [show ((1 : Nat) : Int) = 1 from rfl] at e1
    rw [e1, getV1]
    unfold Dk.gets
    rw [if_neg (by show ¬ (S.mode = 1 ∨ S.mode = 3); rw [hm]; decide)]
/-- A place that there is not. -/
theorem sect_none (S : Dk) (p : Nat) (hp : p < 256) (hn : S.n ≤ p) :
    (S.sect 32 p).inV 7 1 = 81 ∧ ((S.sect 32 p).inS 7 1).inV 1 1 = 16 ∧ Lies p 1 (((S.sect 32 p).inS 7 1).inS 1 1) ∧ (((S.sect 32 p).inS 7 1).inS 1 1).n = S.n ∧ (((S.sect 32 p).inS 7 1).inS 1 1).d = S.d ∧ (((S.sect 32 p).inS 7 1).inS 1 1).log = S.log := by
  have hl := Lies.at1 S p hp
  have e : S.sect 32 p = (S.at1 p).clean.fail 16 := by
    unfold Dk.sect
    rw [hl.read]
    unfold Dk.begin
    rw [hl.clean.place, if_neg (by show ¬ p < S.n; omega)]
  rw [e]
  have hl2 : Lies p 1 ((S.at1 p).clean.fail 16) := ⟨rfl, rfl, rfl, hl.r3, rfl⟩
  generalize hT : (S.at1 p).clean.fail 16 = T at hl2
  have t1 : T.mode = 0 := by rw [← hT]; rfl
  have t2 : T.failed = true := by rw [← hT]; rfl
  have t3 : T.r 1 = 16 := by rw [← hT]; rfl
  have t4 : T.n = S.n := by rw [← hT]; rfl
  have t5 : T.d = S.d := by rw [← hT]; rfl
  have t6 : T.log = S.log := by rw [← hT]; rfl
  have e7 := inS_7 hl2.other
  have ho : (T.setMark false).other = false := hl2.other
  have e8 : (T.setMark false).inS 1 1 = T.setMark false := by
    unfold Dk.inS
    rw [if_neg (by decide), if_neg (by rw [ho]; simp), if_neg (by decide), if_pos (by decide)]
  have e9 : (T.setMark false).inV 1 1 = T.r 1 := by
    unfold Dk.inV
    rw [if_neg (by decide), if_neg (by rw [ho]; simp), if_neg (by decide), if_pos (by decide)]; rfl
  refine ⟨?_, ?_, ?_, ?_, ?_, ?_⟩
  · rw [inV_7 hl2.other]; unfold Dk.status; rw [t1, t2]; rfl
  · rw [e7, e9, t3]
  · rw [e7, e8]; exact ⟨hl2.r6, hl2.r5, hl2.r4, hl2.r3, hl2.r2⟩
  · rw [e7, e8]; exact t4
  · rw [e7, e8]; exact t5
  · rw [e7, e8]; exact t6
/-- Then several sectors from a place that there is. -/
theorem then_read {p : Nat} {S : Dk} (h : Lies p 1 S) (f c : Nat) (hf : f < S.n) (hc : 0 < c) (hn : S.n ≤ 64) (hfc : f + c ≤ S.n) :
    Reading S.n S.d ((f + c) * 512) (f * 512) S.log (((S.out 3 1 f).out 2 1 c).out 7 1 32) := by
  have e : (S.out 3 1 f).out 2 1 c = (S.setR 3 (f % 256)).setR 2 (c % 256) := rfl
  have hl : Lies f c ((S.out 3 1 f).out 2 1 c) := by
    rw [e]
    refine ⟨h.r6, h.r5, h.r4, ?_, ?_⟩
    · show f % 256 = f; omega
    · show c % 256 = c; omega
  rw [hl.read]
  have a1 : ((S.out 3 1 f).out 2 1 c).clean.n = S.n := rfl
  have a2 : ((S.out 3 1 f).out 2 1 c).clean.d = S.d := rfl
  have a3 : ((S.out 3 1 f).out 2 1 c).clean.log = S.log := rfl
  have a4 : ((S.out 3 1 f).out 2 1 c).clean.failed = false := rfl
  have hl2 := hl.clean
  generalize ((S.out 3 1 f).out 2 1 c).clean = T at *
  have := begin_read hl2 (by omega) hc a4
  rwa [a1, a2, a3] at this
end Go.Proofs.Ytojmpdddfnkffaa.Ide

/- ide's laws: a script of calls as an argument. -/
namespace Go.Proofs.Ytojmpdddfnkffaa.Ide
open Go.RowKit Go.WideShapes Go.ChangeShapes
set_option linter.unusedVariables false

theorem trod_struct5 {H : Type} {enc : TypeId × Value → H} {P : Program} {w : World} {base : Nat} {spare : Nat → Bool} {held : Bool} {t : TypeId} {f0 f1 f2 f3 f4 : Field} {fuel : Nat} {cs : List Value} {x : DataW H × List MemPlace}
    (ht : P.underlying t = some (.struct #[f0, f1, f2, f3, f4])) (h : DataW.trod enc P w base spare held fuel t cs = some x) :
    ∃ y0 y1 y2 y3 y4 n, DataW.trod enc P w base spare held n f0.type ((cs.drop f0.offset).take (P.cellsOf f0.type)) = some y0 ∧
      DataW.trod enc P w base spare held n f1.type ((cs.drop f1.offset).take (P.cellsOf f1.type)) = some y1 ∧ DataW.trod enc P w base spare held n f2.type ((cs.drop f2.offset).take (P.cellsOf f2.type)) = some y2 ∧
      DataW.trod enc P w base spare held n f3.type ((cs.drop f3.offset).take (P.cellsOf f3.type)) = some y3 ∧ DataW.trod enc P w base spare held n f4.type ((cs.drop f4.offset).take (P.cellsOf f4.type)) = some y4 := by
  obtain ⟨xs, n, _, rfl, hl, hlen, hf⟩ := DataW.trod_struct ht h
  match xs, hlen with
  | [y0, y1, y2, y3, y4], _ => exact ⟨y0, y1, y2, y3, y4, n, by simpa using hf 0 f0 rfl, by simpa using hf 1 f1 rfl, by simpa using hf 2 f2 rfl, by simpa using hf 3 f3 rfl, by simpa using hf 4 f4 rfl⟩
structure OpsAt (w : World) (b off len : Nat) (kd rg sz : Nat → Int) (v : Nat → Nat) (ti : Nat → Int) : Prop where
  c0 : ∀ i, i < len → w.cell? ⟨b, off + i * 5, none⟩ = some (.int .i64 (kd i))
  c1 : ∀ i, i < len → w.cell? ⟨b, off + i * 5 + 1, none⟩ = some (.int .i64 (rg i))
  c2 : ∀ i, i < len → w.cell? ⟨b, off + i * 5 + 2, none⟩ = some (.int .i64 (sz i))
  c3 : ∀ i, i < len → w.cell? ⟨b, off + i * 5 + 3, none⟩ = some (.int .u32 (v i : Nat))
  c4 : ∀ i, i < len → w.cell? ⟨b, off + i * 5 + 4, none⟩ = some (.int .i64 (ti i))
  u3 : ∀ i, i < len → v i < 4294967296
  u0 : ∀ i, i < len → -9223372036854775808 ≤ kd i ∧ kd i ≤ 9223372036854775807
  u1 : ∀ i, i < len → -9223372036854775808 ≤ rg i ∧ rg i ≤ 9223372036854775807
  u2 : ∀ i, i < len → -9223372036854775808 ≤ sz i ∧ sz i ≤ 9223372036854775807
  u4 : ∀ i, i < len → -9223372036854775808 ≤ ti i ∧ ti i ≤ 9223372036854775807
  hb : b < w.heap.size
theorem OpsAt.below {w w1 : World} {b off len : Nat} {kd rg sz : Nat → Int} {v : Nat → Nat} {ti : Nat → Int} {B : Nat} (h : OpsAt w b off len kd rg sz v ti) (hb : Below B w w1) (hB : b < B) : OpsAt w1 b off len kd rg sz v ti :=
  ⟨fun i hi => (hb.cell hB).trans (h.c0 i hi), fun i hi => (hb.cell hB).trans (h.c1 i hi), fun i hi => (hb.cell hB).trans (h.c2 i hi), fun i hi => (hb.cell hB).trans (h.c3 i hi), fun i hi => (hb.cell hB).trans (h.c4 i hi), h.u3, h.u0, h.u1, h.u2, h.u4, Nat.lt_of_lt_of_le h.hb hb.size⟩
def OpsIn (w : World) (a : Option Addr) (len : Nat) (kd rg sz : Nat → Int) (v : Nat → Nat) (ti : Nat → Int) : Prop := len = 0 ∨ ∃ b off, a = some ⟨b, off, none⟩ ∧ OpsAt w b off len kd rg sz v ti
/-- Nothing is written. -/
structure Still (n : Nat) (d : Nat → Nat) (S : Dk) : Prop where
  hn : S.n = n
  hd : S.d = d
  log : S.log = []
  mode : S.mode ≠ 2
theorem still_putB {n : Nat} {d : Nat → Nat} {S : Dk} (h : Still n d S) (b : Nat) : Still n d (S.putB b) := by
  unfold Dk.putB; rw [if_neg h.mode]; exact h
theorem still_puts {n : Nat} {d : Nat → Nat} {S : Dk} (h : Still n d S) (v k : Nat) : Still n d (S.puts v k) := by
  induction k with
  | zero => exact h
  | succ k ih =>
    rw [Dk.puts]
    split
    · exact ih
    · exact still_putB ih _
theorem still_begin {n : Nat} {d : Nat → Nat} {S : Dk} (hn : S.n = n) (hd : S.d = d) (hl : S.log = []) (m : Nat) (hm : m ≠ 2) : Still n d (S.begin m) := by
  unfold Dk.begin
  split
  · split
    · exact ⟨hn, hd, hl, by show (1 : Nat) ≠ 2; decide⟩
    · exact ⟨hn, hd, hl, hm⟩
  · exact ⟨hn, hd, hl, by show (0 : Nat) ≠ 2; decide⟩
theorem still_command {n : Nat} {d : Nat → Nat} {S : Dk} (h : Still n d S) (c : Nat) (h1 : c ≠ 48) (h2 : c ≠ 49) : Still n d (S.command c) := by
  unfold Dk.command
  split
  · exact h
  split
  · split
    · exact ⟨h.hn, h.hd, h.log, by show (0 : Nat) ≠ 2; decide⟩
    · exact still_begin (S := S.clean) h.hn h.hd h.log 1 (by decide)
  split
  · rename_i h3; omega
  split
  · exact ⟨h.hn, h.hd, h.log, by show (3 : Nat) ≠ 2; decide⟩
  split
  · exact ⟨h.hn, h.hd, h.log, by show (0 : Nat) ≠ 2; decide⟩
  · exact ⟨h.hn, h.hd, h.log, by show (0 : Nat) ≠ 2; decide⟩
theorem still_next {n : Nat} {d : Nat → Nat} {S : Dk} (h : Still n d S) : Still n d S.next := by
  unfold Dk.next
  split
  · exact ⟨h.hn, h.hd, h.log, by show (0 : Nat) ≠ 2; decide⟩
  · exact still_begin (S := S.step) h.hn h.hd h.log _ h.mode
theorem still_getB {n : Nat} {d : Nat → Nat} {S : Dk} (h : Still n d S) : Still n d S.getB := by
  unfold Dk.getB
  split
  · split
    · exact ⟨h.hn, h.hd, h.log, h.mode⟩
    · split
      · exact ⟨h.hn, h.hd, h.log, by show (0 : Nat) ≠ 2; decide⟩
      · exact still_next (S := { S with done := S.done + 1 }) ⟨h.hn, h.hd, h.log, h.mode⟩
  · exact h
theorem still_getN {n : Nat} {d : Nat → Nat} {S : Dk} (h : Still n d S) (k : Nat) : Still n d (S.getN k) := by
  induction k with
  | zero => exact h
  | succ k ih => exact still_getB ih
theorem still_out {n : Nat} {d : Nat → Nat} {S : Dk} (h : Still n d S) (reg size : Int) (v : Nat) (hc : reg ≠ 7 ∨ (v % 256 ≠ 48 ∧ v % 256 ≠ 49)) : Still n d (S.out reg size v) := by
  unfold Dk.out
  split
  · exact h
  split
  · exact still_puts h _ _
  split
  · exact h
  split
  · rename_i h7
    have := hc.resolve_left (fun k => k h7)
    exact still_command h _ this.1 this.2
  split
  · split
    · exact ⟨h.hn, h.hd, h.log, by show (0 : Nat) ≠ 2; decide⟩
    · exact ⟨h.hn, h.hd, h.log, h.mode⟩
  · exact ⟨h.hn, h.hd, h.log, h.mode⟩
theorem still_inS {n : Nat} {d : Nat → Nat} {S : Dk} (h : Still n d S) (reg size : Int) : Still n d (S.inS reg size) := by
  unfold Dk.inS
  split
  · exact h
  split
  · exact h
  split
  · exact still_getN h _
  split
  · exact h
  · exact ⟨h.hn, h.hd, h.log, h.mode⟩
end Go.Proofs.Ytojmpdddfnkffaa.Ide

/- ide's laws: a law's own block beside the disk; bytes as a string. -/
namespace Go.Proofs.Ytojmpdddfnkffaa.Ide
open Go.RowKit
set_option linter.unusedVariables false

/-- n bytes as a string. -/
def strOf (n : Nat) (f : Nat → Nat) : ByteArray := strOfNums ((List.range n).map fun i => ((f i : Nat) : Int))
theorem row_cell {w : World} {B : Nat} {v : Value} {m : Nat} {d : Nat → Nat} (h : w.ownsRow B 5 1 v m (bytesL m d)) (i : Nat) (hi : i < m) :
    ∃ g cap, v = .slice (some ⟨g, 0, none⟩) m cap ∧ w.cell? ⟨g, i, none⟩ = some (.int .u8 (d i : Nat)) ∧ g < w.heap.size := by
  rcases h.2 with ⟨rfl, h0⟩ | ⟨g, cap, cur, rfl, _, hg, h1, h2, h3, h4⟩
  · omega
  · refine ⟨g, cap, rfl, ?_, heap_lt hg⟩
    rw [cell_at hg]
    rw [Nat.mul_one] at h4
    have := congrArg (fun l => l[i]?) h4
    rw [List.getElem?_take, if_pos hi, bytesL_at _ _ _ hi, Array.getElem?_toList] at this
    exact this
theorem conv_row {w : World} {B : Nat} {v : Value} {n : Nat} {f : Nat → Nat} (h : w.ownsRow B 5 1 v n (bytesL n f)) :
    (convert 30 9 v).run Try.prog w = .ok (.string (strOf n f)) w := by
  have hc := row_cell h
  rcases h.2 with ⟨rfl, h0⟩ | ⟨g, cap, cur, rfl, _, hg, h1, h2, h3, h4⟩
  · subst h0
    exact run_convert_bytes_nil _ _ _ Try.underlying30 Try.underlying5 0 0 _ Try.underlying9
  · refine run_convert_bytes_arg w _ _ Try.underlying30 Try.underlying5 g 0 n cap ((List.range n).map fun i => ((f i : Nat) : Int)) (by simp) ?_ _ Try.underlying9
    intro i hi
    obtain ⟨g', cap', e, hx, _⟩ := hc i hi
    injection e with e1 e2 e3
    injection e1 with e1
    injection e1 with e1
    subst e1
    rw [Nat.zero_add, hx]
    simp [List.getD, hi]
theorem row_keep {w w' : World} {B C : Nat} {v : Value} {n : Nat} {f : Nat → Nat} (h : w.ownsRow B 5 1 v n (bytesL n f)) (hb : Below C w w') (hC : w.heap.size ≤ C) : w'.ownsRow B 5 1 v n (bytesL n f) :=
  row_of_heap h fun k hk => hb.block k (Nat.lt_of_lt_of_le (World.ownsRow.lt h k hk).2 hC)

/-- As 'At', and a block g that is the law's own. -/
def AtF (w0 w : World) (b : Nat) (D : Dk) (g : Nat) (o : Obj) : Prop :=
  ∃ ds lv, IdeIn 113 w b ds lv D ∧ D.room ∧ (∀ k, Held b ds lv k → w0.heap.size ≤ k ∧ k ≠ g) ∧ w.heap[g]? = some o ∧ Below w0.heap.size w0 w
section
variable {w0 w w' : World} {b g : Nat} {D : Dk} {o : Obj}
theorem AtF.at (h : AtF w0 w b D g o) : At w0 w b D := by
  obtain ⟨ds, lv, H, R, N, O, B⟩ := h
  exact ⟨ds, lv, H, R, fun k hk => (N k hk).1, B⟩
theorem AtF.obj (h : AtF w0 w b D g o) : w.heap[g]? = some o := by obtain ⟨ds, lv, H, R, N, O, B⟩ := h; exact O
theorem AtF.new (h : At w0 w b D) (hb : Below w.heap.size w w') (ho : w'.heap[w.heap.size]? = some o) : AtF w0 w' b D w.heap.size o := by
  obtain ⟨ds, lv, H, R, N, B⟩ := h
  exact ⟨ds, lv, H.keeps (Keeps.ofBelow (S := fun _ => False) hb) (fun _ _ h => h), R, fun k hk => ⟨N k hk, Nat.ne_of_lt (hk.lt H)⟩, ho, Keeps.toBelow B (Keeps.ofBelow (S := fun _ => False) hb) B.size (fun _ h => h.elim)⟩
theorem wentF {ds lv : Value} {D1 : Dk} {w1 : World} (H : IdeIn 113 w b ds lv D) (R : D1.room) (N : ∀ k, Held b ds lv k → w0.heap.size ≤ k ∧ k ≠ g) (O : w.heap[g]? = some o) (B : Below w0.heap.size w0 w) (h : Went w b ds lv D1 w1) : AtF w0 w1 b D1 g o := by
  obtain ⟨lv1, H1, K, N1⟩ := h
  have hg := heap_lt O
  refine ⟨ds, lv1, H1, R, fun k hk => ?_, heap_keeps K (fun hi => (N g hi).2 rfl) O, Keeps.toBelow B K B.size fun i hi => (N i hi).1⟩
  rcases hk with hk | hk | hk
  · exact N k (.inl hk)
  · exact N k (.inr (.inl hk))
  · rcases N1 k hk with h | h
    · exact N k (.inr (.inr h))
    · exact ⟨Nat.le_trans B.size h, by omega⟩
theorem out_atF (h : AtF w0 w b D g o) (reg size : Int) (v : Nat) (hv : v < 4294967296) (hL : D.log.length + 4 < 17592186044416) :
    Calls Try.prog 27 #[.pointer (some ⟨b, 0, none⟩), .int .i64 reg, .int .i64 size, .int .u32 v] w fun e w' => e = .returned (.int .i64 (callErr reg size)) ∧ AtF w0 w' b (D.out reg size v) g o := by
  obtain ⟨ds, lv, H, R, N, O, B⟩ := h
  refine (out_any H R reg size v hv hL).mono ?_
  rintro e w1 ⟨rfl, W⟩
  exact ⟨rfl, wentF H (Dk.room_out R reg size v) N O B W⟩
theorem in_atF (h : AtF w0 w b D g o) (reg size : Int) :
    Calls Try.prog 29 #[.pointer (some ⟨b, 0, none⟩), .int .i64 reg, .int .i64 size] w fun e w' => e = .returned (.tuple #[.int .u32 (D.inV reg size : Nat), .int .i64 (callErr reg size)]) ∧ AtF w0 w' b (D.inS reg size) g o := by
  obtain ⟨ds, lv, H, R, N, O, B⟩ := h
  refine (in_any H R reg size).mono ?_
  rintro e w1 ⟨rfl, W⟩
  exact ⟨rfl, wentF H (Dk.room_inS R reg size) N O B W⟩
theorem row_len {w : World} {B : Nat} {E : TypeId} {n : Nat} {v : Value} {xs : List Value} (h : w.ownsRow B E 1 v n xs) : ∃ a c, v = .slice a n c := by
  rcases h.2 with ⟨rfl, h0⟩ | ⟨g, cap, cur, rfl, _, hg, h1, h2, h3, h4⟩
  · subst h0; exact ⟨_, _, rfl⟩
  · exact ⟨_, _, rfl⟩
/-- What was written is told. -/
theorem written_at (h : At w0 w b D) :
    Calls Try.prog 51 #[.pointer (some ⟨b, 0, none⟩)] w fun e w' => ∃ a c, e = .returned (.slice a D.log.length c) ∧ At w0 w' b D.quit ∧ w'.ownsRow 0 3 1 (.slice a D.log.length c) D.log.length (D.log.map fun x => .int .i64 (x : Nat)) := by
  obtain ⟨ds, lv, H, R, N, B⟩ := h
  refine (written_in H).mono ?_
  rintro e w1 ⟨rfl, H1, K⟩
  have hl := H.log
  have d2 := H.d2
  have hr : w1.ownsRow 0 3 1 lv D.log.length (D.log.map fun x => .int .i64 (x : Nat)) := row_of_heap hl fun k hk => K.block k (World.ownsRow.lt hl k hk).2 fun e => d2 (by rw [hk, e])
  obtain ⟨a, c, rfl⟩ := row_len hl
  refine ⟨a, c, rfl, ⟨ds, _, H1, R, fun k hk => ?_, Keeps.toBelow B K B.size fun i hi => ?_⟩, hr⟩
  · rcases hk with hk | hk | hk
    · exact N k (.inl hk)
    · exact N k (.inr (.inl hk))
    · cases hk
  · exact N i (.inl hi)
end
end Go.Proofs.Ytojmpdddfnkffaa.Ide

/- ide: the document's disk: fresh, Line, place, there, fail, begin. -/
namespace Go.Proofs.Ytojmpdddfnkffaa.Ide
open Go.RowKit
set_option linter.unusedVariables false
set_option linter.unusedSimpArgs false

section
variable {w : World} {b : Nat} {ds lv : Value} {D : Dk}
set_option maxHeartbeats 1000000 in
theorem rfresh_in (H : IdeIn 144 w b ds lv D) :
    Calls Try.prog 79 #[.pointer (some ⟨b, 0, none⟩)] w fun e w' => e = .returned (.tuple #[]) ∧ IdeIn 144 w' b ds lv D.fresh ∧ Keeps (· = b) w w' := by
  obtain ⟨-, k1, k2, k3, k4, k5, k6, k7, -, k9, k10, k11, k12, -, kf, klt⟩ := H.facts
  have HH := Lib.hid H
  clear H
  go_enter Try.func79, Try.ntmps79
  go_wp2_with fail
  go_end0
  have B1 := Blk.reg (Blk.of HH.out) 0 0 0 rfl (by decide)
  have B2 := Blk.reg B1 1 1 1 rfl (by decide)
  have B3 := Blk.reg B2 2 1 1 rfl (by decide)
  have B4 := Blk.reg B3 3 1 1 rfl (by decide)
  have B5 := Blk.reg B4 4 0 0 rfl (by decide)
  have B6 := Blk.reg B5 5 0 0 rfl (by decide)
  have B7 := Blk.reg B6 6 0 0 rfl (by decide)
  have B8 := Blk.failed (Blk.mark (Blk.done (Blk.mode B7 0 0 rfl) 0 0 rfl) false) false
  rw [← Dk.fresh_eq] at B8
  refine ⟨rfl, turned HH.out B8 ?_ (Dk.fresh_ok HH.out.ok) rfl rfl rfl⟩
  (repeat' (first | (with_reducible exact Keeps.refl _ _) | (with_reducible refine Keeps.setOne ?_ _ _)))
set_option maxHeartbeats 1000000 in
theorem rline_in (H : IdeIn 144 w b ds lv D) :
    Calls Try.prog 83 #[.pointer (some ⟨b, 0, none⟩)] w fun e w' => e = .returned (.bool D.line) ∧ w = w' := by
  obtain ⟨-, -, -, -, -, -, -, -, k8, -, -, k11, -⟩ := H.facts
  have h1 := H.ok.c
  have hb : ((D.c : Int) / 2 % 2 == 0) = (D.c / 2 % 2 == 0) := by rw [Bool.eq_iff_iff]; simp; omega
  cases hm : D.mark
  all_goals
    rw [hm] at k11
    have HM := Lib.hid hm
    clear hm
    go_enter Try.func83, Try.ntmps83
    go_wp2_with fail
    go_ret
    exact ⟨by unfold Dk.line; rw [HM.out]; rfl, rfl⟩
theorem Dk.cells_buf (S : Dk) (ds ws : Value) (f : Nat → Nat) (h : ∀ i, i < 512 → S.buf i = f i) : S.cells ds ws = ({ S with buf := f } : Dk).cells ds ws := by
  unfold Dk.cells
  refine ofFn_ext (f := S.cell ds ws) fun i hi => ?_
  unfold Dk.cell
  by_cases h9 : 9 ≤ i ∧ i < 521
  · rw [if_neg (by omega), if_neg (by omega), if_neg (by omega), if_pos (by omega), if_neg (by omega), if_neg (by omega), if_neg (by omega), if_pos (by omega), h _ (by omega)]
  · (repeat' split) <;> first | rfl | omega
/-- The buffer while a sector is read: k bytes are. -/
def Dk.part (S : Dk) (o k : Nat) : Dk := { S with mode := 1, done := 0, buf := fun i => if i < k then S.d (o + i) else S.buf i }
theorem Dk.part_succ (S : Dk) (o k : Nat) : (S.part o k).setBuf k (S.d (o + k)) = S.part o (k + 1) := by
  have h : upd (S.part o k).buf k (S.d (o + k)) = (S.part o (k + 1)).buf := by
    funext i
    unfold upd
    show (if i = k then _ else if i < k then _ else _) = if i < k + 1 then _ else _
    by_cases e : i = k
    · rw [if_pos e, if_pos (by omega), e]
    · rw [if_neg e]
      by_cases h : i < k
      · rw [if_pos h, if_pos (by omega)]
      · rw [if_neg h, if_neg (by omega)]
  unfold Dk.setBuf
  rw [h]; rfl
theorem Dk.part_zero (S : Dk) (o : Nat) : S.part o 0 = (S.setMode 1).setDone 0 := by
  unfold Dk.part
  have h : (fun i => if i < 0 then S.d (o + i) else S.buf i) = S.buf := by funext i; rw [if_neg (by omega)]
  rw [h]; rfl
end
end Go.Proofs.Ytojmpdddfnkffaa.Ide

/- ide: the document's disk: command. -/
namespace Go.Proofs.Ytojmpdddfnkffaa.Ide
open Go.RowKit
set_option linter.unusedVariables false
set_option linter.unusedSimpArgs false

section
variable {w : World} {b : Nat} {ds lv : Value} {D : Dk}
theorem Dk.clean_r6 (S : Dk) : S.clean.r 6 = S.r 6 := rfl
/-- Behind the first four stores of a command. -/
theorem rclean_in (H : IdeIn 144 w b ds lv D) :
    IdeIn 144 ((((w.setCell ⟨b, 523, none⟩ (.bool false)).setCell ⟨b, 2, none⟩ (.int .u8 0)).setCell ⟨b, 524, none⟩ (.bool false)).setCell ⟨b, 522, none⟩ (.int .i64 0)) b ds lv D.clean ∧ Keeps (· = b) w ((((w.setCell ⟨b, 523, none⟩ (.bool false)).setCell ⟨b, 2, none⟩ (.int .u8 0)).setCell ⟨b, 524, none⟩ (.bool false)).setCell ⟨b, 522, none⟩ (.int .i64 0)) :=
  turned H (Blk.mode (Blk.failed (Blk.reg (Blk.mark (Blk.of H) false) 1 0 0 rfl (by decide)) false) 0 0 rfl) ((((Keeps.refl _ w).setOne _ _).setOne _ _).setOne _ _ |>.setOne _ _) (Dk.clean_ok H.ok) rfl rfl rfl
/-- A command's end. -/
def RCmd (w : World) (b : Nat) (ds lv : Value) (D : Dk) (e : Ending) (w' : World) : Prop := e = .returned (.tuple #[]) ∧ IdeIn 144 w' b ds lv D ∧ Keeps (· = b) w w'
set_option maxRecDepth 100000 in
theorem zero512 (w : World) : (zeroValue 111).run Try.prog w = .ok (.agg (bytesL 512 (fun _ => 0)).toArray) w := by kernel_rfl
theorem bytes_one (n : Nat) (f : Nat → Nat) : (bytesL n f).toArray.all (·.oneCell') = true := all_oneCell_toArray (bytesL_one n f)
set_option maxRecDepth 100000 in
theorem told_cells (n : Nat) : (((bytesL 512 (fun _ => 0)).toArray.setIfInBounds 0 (.int .u8 64)).setIfInBounds 99 (.int .u8 2)).setIfInBounds 120 (.int .u8 (n : Nat)) = (bytesL 512 (tellBuf n)).toArray := by kernel_rfl
end
end Go.Proofs.Ytojmpdddfnkffaa.Ide

/- ide: the document's disk: behind a sector; a byte is read. -/
namespace Go.Proofs.Ytojmpdddfnkffaa.Ide
open Go.RowKit
set_option linter.unusedVariables false
set_option linter.unusedSimpArgs false

theorem Dk.setR_ok' {S : Dk} (h : S.ok) (k v : Nat) (hv : v < 256) : (S.setR k v).ok := { h with r := upd_lt h.r k v hv }
/-- Behind the registers' turn. -/
def Dk.pre (S : Dk) : Dk := ((((S.setR 3 ((S.place + 1) % 256)).setR 4 ((S.place + 1) / 256 % 256)).setR 5 ((S.place + 1) / 65536 % 256)).setR 6 (S.r 6 / 16 * 16 + (S.place + 1) / 16777216 % 16)).setR 2 ((S.r 2 + 255) % 256)
theorem Dk.setR_n (S : Dk) (k v : Nat) : (S.setR k v).n = S.n := rfl
theorem Dk.setR_d (S : Dk) (k v : Nat) : (S.setR k v).d = S.d := rfl
theorem Dk.setR_log (S : Dk) (k v : Nat) : (S.setR k v).log = S.log := rfl
theorem Dk.setR_mode (S : Dk) (k v : Nat) : (S.setR k v).mode = S.mode := rfl
theorem Dk.setR_same (S : Dk) (k v : Nat) : (S.setR k v).r k = v := upd_same _ _ _
theorem Dk.setMode_r (S : Dk) (m : Nat) : (S.setMode m).r = S.r := rfl
theorem Dk.pre_step (S : Dk) : S.pre.setMode 0 = S.step := by unfold Dk.pre; exact (Dk.step_eq S).symm
theorem Dk.pre_ok {S : Dk} (h : S.ok) : S.pre.ok := by
  unfold Dk.pre
  exact Dk.setR_ok' (Dk.setR_ok' (Dk.setR_ok' (Dk.setR_ok' (Dk.setR_ok' h _ _ (Nat.mod_lt _ (by decide))) _ _ (Nat.mod_lt _ (by decide))) _ _ (Nat.mod_lt _ (by decide))) _ _ (by have := h.r 6; omega)) _ _ (Nat.mod_lt _ (by decide))
theorem Dk.pre_mode (S : Dk) : S.pre.mode = S.mode := by unfold Dk.pre; rw [Dk.setR_mode, Dk.setR_mode, Dk.setR_mode, Dk.setR_mode, Dk.setR_mode]
theorem Dk.pre_n (S : Dk) : S.pre.n = S.n := by unfold Dk.pre; rw [Dk.setR_n, Dk.setR_n, Dk.setR_n, Dk.setR_n, Dk.setR_n]
theorem Dk.pre_d (S : Dk) : S.pre.d = S.d := by unfold Dk.pre; rw [Dk.setR_d, Dk.setR_d, Dk.setR_d, Dk.setR_d, Dk.setR_d]
theorem Dk.pre_log (S : Dk) : S.pre.log = S.log := by unfold Dk.pre; rw [Dk.setR_log, Dk.setR_log, Dk.setR_log, Dk.setR_log, Dk.setR_log]
theorem Dk.pre_r2 (S : Dk) : S.pre.r 2 = (S.r 2 + 255) % 256 := by unfold Dk.pre; exact Dk.setR_same _ _ _
theorem Dk.step_r2 (S : Dk) : S.step.r 2 = (S.r 2 + 255) % 256 := by rw [← Dk.pre_step, Dk.setMode_r, Dk.pre_r2]
theorem Dk.setMode_fail (S : Dk) (x e : Nat) : (S.setMode x).fail e = S.fail e := by simp only [Dk.fail, Dk.setMode]
theorem Dk.setMode_place (S : Dk) (x : Nat) : (S.setMode x).place = S.place := by unfold Dk.place; rw [Dk.setMode_r]
theorem Dk.setMode_n (S : Dk) (x : Nat) : (S.setMode x).n = S.n := rfl
theorem Dk.begin_mode (S : Dk) (x m : Nat) : (S.setMode x).begin m = S.begin m := by
  unfold Dk.begin
  rw [Dk.setMode_place, Dk.setMode_n, Dk.setMode_fail]
  simp only [Dk.setMode]
theorem Dk.setMode_d (S : Dk) (x : Nat) : (S.setMode x).d = S.d := rfl
theorem Dk.setMode_log (S : Dk) (x : Nat) : (S.setMode x).log = S.log := rfl
theorem Dk.next_zero (S : Dk) (h : S.step.r 2 = 0) : S.next = S.step := by unfold Dk.next; rw [if_pos h]
theorem Dk.next_more (S : Dk) (h : ¬ S.step.r 2 = 0) : S.next = S.pre.begin S.mode := by
  have e : S.next = S.step.begin S.mode := by unfold Dk.next; rw [if_neg h]
  rw [e, ← Dk.pre_step, Dk.begin_mode]
section
variable {w : World} {b : Nat} {ds lv : Value} {D : Dk}
end
end Go.Proofs.Ytojmpdddfnkffaa.Ide

/- ide: the document's disk: a byte is read, a byte is written. -/
namespace Go.Proofs.Ytojmpdddfnkffaa.Ide
open Go.RowKit
set_option linter.unusedVariables false
set_option linter.unusedSimpArgs false

section
variable {w : World} {b : Nat} {ds lv : Value} {D : Dk}
theorem rgot_in (H : IdeIn 144 w b ds lv D) (hd : D.done < 512) (n : Nat) (x : Int) (hx : x = (D.done : Int) + 1) : IdeIn 144 ((w.drewN n).setCell ⟨b, 521, none⟩ (.int .i64 x)) b ds lv (D.setDone (D.done + 1)) ∧ Keeps (· = b) w ((w.drewN n).setCell ⟨b, 521, none⟩ (.int .i64 x)) :=
  turned H (Blk.done (Blk.drewN (Blk.of H) n) (D.done + 1) x (by omega)) (((Keeps.refl _ w).drewN n).setOne _ _) (Dk.step1_ok H.ok hd) rfl rfl rfl
end
end Go.Proofs.Ytojmpdddfnkffaa.Ide

/- ide: the document's disk: a byte is written. -/
namespace Go.Proofs.Ytojmpdddfnkffaa.Ide
open Go.RowKit
set_option linter.unusedVariables false
set_option linter.unusedSimpArgs false

/-- A buffer's first k bytes laid over a sector. -/
def Dk.flushK (S : Dk) (o k : Nat) : Dk := { S with d := fun i => if o ≤ i ∧ i < o + k then S.buf (i - o) else S.d i }
theorem Dk.flushK_zero (S : Dk) (o : Nat) : S.flushK o 0 = S := by
  have h : (fun i => if o ≤ i ∧ i < o + 0 then S.buf (i - o) else S.d i) = S.d := by funext i; rw [if_neg (by omega)]
  unfold Dk.flushK; rw [h]
theorem Dk.flushK_succ (S : Dk) (o k : Nat) : S.flushK o (k + 1) = { S.flushK o k with d := upd (S.flushK o k).d (o + k) (S.buf k) } := by
  have h : (fun i => if o ≤ i ∧ i < o + (k + 1) then S.buf (i - o) else S.d i) = upd (S.flushK o k).d (o + k) (S.buf k) := by
    funext i
    unfold upd
    show _ = if i = o + k then _ else if o ≤ i ∧ i < o + k then _ else _
    by_cases e : i = o + k
    · rw [if_pos e, if_pos (by omega), show i - o = k by omega]
    · rw [if_neg e]
      by_cases h : o ≤ i ∧ i < o + k
      · rw [if_pos h, if_pos (by omega)]
      · rw [if_neg h, if_neg (by omega)]
  have e : S.flushK o (k + 1) = ({ S with d := fun i => if o ≤ i ∧ i < o + (k + 1) then S.buf (i - o) else S.d i } : Dk) := rfl
  rw [e, h]; rfl
section
variable {w : World} {b : Nat} {ds lv : Value} {D : Dk}
theorem bytesL_set (n : Nat) (d : Nat → Nat) (i v : Nat) : (bytesL n d).set i (.int .u8 (v : Nat)) = bytesL n (upd d i v) := by
  refine List.ext_getElem? fun j => ?_
  rw [List.getElem?_set, bytesL_len]
  by_cases hj : j < n
  · rw [bytesL_at n d j hj, bytesL_at n _ j hj]
    by_cases e : i = j
    · subst e; rw [if_pos rfl, if_pos hj, upd_same]
    · rw [if_neg e, upd_ne _ _ _ _ (fun h => e h.symm)]
  · rw [bytesL_no n d j (by omega), bytesL_no n _ j (by omega)]
    by_cases e : i = j
    · subst e; rw [if_pos rfl, if_neg hj]
    · rw [if_neg e]
/-- One byte of the disk is turned. -/
theorem IdeIn.poke {T : TypeId} (H : IdeIn T w b ds lv D) {g cap i : Nat} (hds : ds = .slice (some ⟨g, 0, none⟩) (D.n * 512) cap) (hi : i < D.n * 512) (v : Nat) (hv : v < 256) :
    ∃ u, w.cell? ⟨g, i, none⟩ = some u ∧ (∀ k, w.frozen? ⟨g, k, none⟩ = false) ∧ g < w.heap.size ∧ IdeIn T (w.setCell ⟨g, i, none⟩ (.int .u8 (v : Nat))) b ds lv { D with d := upd D.d i v } := by
  obtain ⟨g', cap', cur, hds', hg, hc, hcm, hsz, htk⟩ := H.disk.open (by omega)
  rw [hds] at hds'
  simp only [Value.slice.injEq, Option.some.injEq, Addr.mk.injEq, and_true, true_and] at hds'
  obtain ⟨rfl, rfl⟩ := hds'
  have hgb : b ≠ g := fun e => H.d1 (by rw [hds, ← e]; rfl)
  have K : Keeps (· = g) w (w.setCell ⟨g, i, none⟩ (.int .u8 (v : Nat))) := (Keeps.refl _ _).setOne _ _
  have hd : Bytes (w.setCell ⟨g, i, none⟩ (.int .u8 (v : Nat))) ds D.n (upd D.d i v) := by
    refine ⟨by rw [bytesL_len]; omega, .inr ⟨g, cap, cur.setIfInBounds i (.int .u8 (v : Nat)), hds, Nat.zero_le _, heap_set_same _ hg, hc, by unfold maxLen; omega, ?_, ?_⟩⟩
    · rw [Array.size_setIfInBounds]; omega
    · rw [Nat.mul_one, Array.toList_setIfInBounds, List.take_set, htk, bytesL_set]
  refine ⟨_, by rw [cell_at hg]; exact Array.getElem?_eq_getElem (by omega), fun k => free_at hg, heap_lt hg, { obj := ?_, disk := hd, log := row_of_heap H.log fun k hk => K.block k (H.log.lt k hk).2 (fun e => H.d3 g (by rw [hds]; rfl) (by rw [← e]; exact hk)), d1 := H.d1, d2 := H.d2, d3 := H.d3, ok := { H.ok with d := upd_lt H.ok.d i v hv } }⟩
  rw [K.block b (heap_lt H.obj) hgb]; exact H.obj
end
end Go.Proofs.Ytojmpdddfnkffaa.Ide

/- ide: the document's disk: Out, In. -/
namespace Go.Proofs.Ytojmpdddfnkffaa.Ide
open Go.RowKit
set_option linter.unusedVariables false
set_option linter.unusedSimpArgs false

/-- A disk of the document's behind a call: its blocks. -/
def RWent (w : World) (b : Nat) (ds lv : Value) (D : Dk) (wr : World) : Prop :=
  ∃ lv', IdeIn 144 wr b ds lv' D ∧ Keeps (Held b ds lv) w wr ∧ ∀ k, lv'.ownBlock = some k → lv.ownBlock = some k ∨ w.heap.size ≤ k
theorem RWent.next {w wr w1 : World} {b : Nat} {ds lv lv1 : Value} {D1 : Dk} (K : Keeps (Held b ds lv) w wr) (N : ∀ k, lv1.ownBlock = some k → lv.ownBlock = some k ∨ w.heap.size ≤ k) (h : RWent wr b ds lv1 D1 w1) : RWent w b ds lv D1 w1 := by
  obtain ⟨lv2, H, K2, N2⟩ := h
  refine ⟨lv2, H, K.andThen K2 fun i hi hs => ?_, fun k hk => ?_⟩
  · rcases hs with h | h | h
    · exact Or.inl h
    · exact Or.inr (Or.inl h)
    · rcases N i h with h | h
      · exact Or.inr (Or.inr h)
      · omega
  · rcases N2 k hk with h | h
    · exact N k h
    · exact .inr (Nat.le_trans K.size h)
theorem RWent.of {w wr : World} {b : Nat} {ds lv : Value} {D : Dk} (H : IdeIn 144 wr b ds lv D) (K : Keeps (· = b) w wr) : RWent w b ds lv D wr := ⟨lv, H, K.mono fun k _ h => Or.inl h, fun k h => .inl h⟩
section
variable {w : World} {b : Nat} {ds lv : Value} {D : Dk}
theorem rother (H : IdeIn 144 w b ds lv D) : ((D.r 6 : Int) / 16 % 2 == 1) = D.other ∧ ((D.r 6 : Int) / 16 % 2 == 0) = !D.other := by
  unfold Dk.other
  constructor
  · rw [Bool.eq_iff_iff]; simp; omega
  · rw [Bool.eq_iff_iff]; simp; omega
theorem shr_mod (v k : Nat) : ((v : Int) / 2 ^ (8 * k)).tmod 256 % 256 = ((v / 256 ^ k % 256 : Nat) : Int) := by
  have h0 : (0 : Int) ≤ (v : Int) / 2 ^ (8 * k) := Int.ediv_nonneg (by omega) (Int.le_of_lt (Int.pow_pos (by decide)))
  rw [Int.tmod_eq_emod_of_nonneg h0, Int.emod_emod, shr_nat]
/-- A call that has no error: its size. -/
theorem sized_call {reg size : Int} (he : callErr reg size = 0) : 0 ≤ reg ∧ reg ≤ 8 ∧ (reg = 0 → size = 1 ∨ size = 2 ∨ size = 4) := by
  unfold callErr at he
  split at he
  · omega
  · split at he
    · omega
    · omega
end
end Go.Proofs.Ytojmpdddfnkffaa.Ide

/- ide: the document's disk: New, Written. -/
namespace Go.Proofs.Ytojmpdddfnkffaa.Ide
open Go.RowKit
set_option linter.unusedVariables false
set_option linter.unusedSimpArgs false

set_option maxRecDepth 100000 in
theorem rbuilt_new (a : Option Addr) (m c : Nat) : Try.prog.built 144 [(0, .slice a m c)] = some (blank.cells (.slice a m c) (.slice none 0 0)) := by kernel_rfl
/-- A slice's cells, appended to an empty slice. -/
theorem reads_news {w : World} {v : Value} {n : Nat} {d : Nat → Nat} (H : Reads w v n d) : (n = 0 ∧ v = .slice none 0 0) ∨ ∃ ad c, v = .slice (some ad) n c ∧ ∀ j u, (bytesL n d)[j]? = some u → w.cell? (ad.add j) = some u := by
  obtain ⟨a, c, rfl, h⟩ := H
  cases a with
  | none =>
    rcases h with ⟨rfl, h⟩ | ⟨b, off, h, _⟩
    · obtain rfl := h rfl; exact .inl ⟨rfl, rfl⟩
    · cases h
  | some a =>
    right
    rcases h with ⟨rfl, h⟩ | ⟨b, off, h, _, hc⟩
    · exact ⟨a, c, rfl, fun j u hj => by rw [bytesL_no 0 d j (Nat.zero_le _)] at hj; cases hj⟩
    · cases h
      exact ⟨_, c, rfl, fun j u hj => by obtain ⟨hj2, rfl⟩ := bytesL_some hj; rw [Go.WideShapes.add_plain]; exact hc j hj2⟩
section
variable {w : World} {b : Nat} {ds lv : Value} {D : Dk}
theorem rmade_in {w1 : World} {L n : Nat} {d : Nat → Nat} {a' : Option Addr} {c' : Nat} (hL : L = n * 512) (hn : n ≤ 64) (hd : ∀ i, d i < 256) (hown : w1.ownsRow w.heap.size 5 1 (.slice a' L c') L (bytesL L d)) :
    IdeIn 144 (w1.alloc (.cells (blank.cells (.slice a' L c') (.slice none 0 0)) 144)) w1.heap.size (.slice a' L c') (.slice none 0 0) (Dk.made n d) := by
  have hlt := World.ownsRow.lt hown
  refine { obj := heap_new w1 _, disk := ?_, log := World.ownsRow_nil _ _ _ _, d1 := fun e => ?_, d2 := (fun e => by cases e), d3 := (fun k _ e => by cases e), ok := Dk.made_ok hn hd }
  · have hr := row_base hown
    rw [hL] at hr ⊢
    exact hr.alloc _
  · exact Nat.lt_irrefl _ (hlt _ e).2
def NewAt (w : World) (n : Nat) (d : Nat → Nat) (e : Ending) (w' : World) : Prop :=
  ∃ b ds, e = .returned (.tuple #[.pointer (some ⟨b, 0, none⟩), .int .i64 0]) ∧ IdeIn 144 w' b ds (.slice none 0 0) (Dk.new n d) ∧ w.heap.size ≤ b ∧ (∀ k, ds.ownBlock = some k → w.heap.size ≤ k) ∧ Below w.heap.size w w'
theorem rrow_len {w : World} {B n : Nat} {E : TypeId} {v : Value} {xs : List Value} (h : w.ownsRow B E 1 v n xs) : ∃ a c, v = .slice a n c := by
  rcases h.2 with ⟨rfl, rfl⟩ | ⟨g, cap, cur, rfl, _⟩
  · exact ⟨_, _, rfl⟩
  · exact ⟨_, _, rfl⟩
set_option maxHeartbeats 2000000 in
set_option maxRecDepth 20000 in
theorem rnew_yes {v : Value} {n : Nat} {d : Nat → Nat} (H : Reads w v (n * 512) d) (hn : n ≤ 64) (hd : ∀ i, d i < 256) :
    Calls Try.prog 55 #[v] w (NewAt w n d) := by
  have hown : (w.alloc (.cells #[] 5)).ownsRow w.heap.size 5 1 (.slice (some ⟨w.heap.size, 0, none⟩) 0 0) 0 [] := World.ownsRow_made w #[] 0 (Nat.le_refl _) (by decide) (by simp)
  have HOWN := Lib.hid hown
  clear hown
  obtain ⟨i0, hi, hz0, hz1, hz2⟩ := info_parts info8
  have q1 : ((n * 512 : Nat) : Int) % 512 = 0 := by omega
  have q2 : ((n * 512 : Nat) : Int) ≤ 32768 := by omega
  have q3 : n * 512 ≤ 32768 := by omega
  rcases reads_news H with ⟨h0, rfl⟩ | ⟨ad, c, rfl, hnews⟩
  · have hn0 : n = 0 := by omega
    subst hn0
    clear H h0 q1 q2 q3
    go_enter Try.func55, Try.ntmps55
    go_wp2_with (first | (at_builtin; (refine wpList_append_own_none rfl _ _ 30 rfl w.heap.size 5 i0 1 Try.underlying30 hi _ 0 [] rfl HOWN.out rfl ?_)) | ((refine wpList_build_eq (o := ⟨some 17, _, _, _, _, _⟩) ?hg0 144 ?pt0 ?ho0 (blank.cells (.slice (some ⟨w.heap.size, 0, none⟩) 0 0) (.slice none 0 0)) ?hb0 ?_); (case ho0 => rfl); (case hg0 => rfl); (case hb0 => (simp only [List.map_toArray, List.map_cons, List.map_nil]; exact rbuilt_new _ _ _))))
    have H0 := rmade_in (w := w) (n := 0) (L := 0) (d := d) (by omega) (by omega) hd HOWN.out
    simp only [World.size_alloc] at H0
    have H1 := Lib.hid H0
    clear H0
    refine (rfresh_in H1.out).mono ?_
    rintro e w2 ⟨rfl, H2, K2⟩
    have HX := Lib.hid (And.intro H2 K2)
    clear H2 K2
    go_wp2_with fail
    go_ret2
    refine ⟨_, _, rfl, HX.out.1, by simp, fun k hk => by cases hk; exact Nat.le_refl _, ?_⟩
    exact Keeps.toBelow (((Below.refl _ _).alloc (Nat.le_refl _) _).alloc (by simp) _) HX.out.2 (by simp; omega) (fun i h => by rw [h]; simp)
  · have HNEWS := Lib.hid (show ∀ j u, (bytesL (n * 512) d)[j]? = some u → (w.alloc (.cells #[] 5)).cell? (ad.add j) = some u from fun j u h => by
      have := hnews j u h
      rw [World.cell?_alloc_lt _ _ _ (World.block_lt_of_cell? w _ this)]
      exact this)
    clear hnews H
    obtain ⟨L, hL⟩ : ∃ L, L = n * 512 := ⟨_, rfl⟩
    rw [← hL] at q1 q2 q3 HNEWS ⊢
    have HL := Lib.hid (And.intro hL hn)
    clear hL hn
    go_enter Try.func55, Try.ntmps55
    go_wp2_with (first | (at_builtin; refine wpList_append_own _ rfl _ _ 30 rfl w.heap.size 5 i0 (.int .u8 0) 1 1 Try.underlying30 hi hz0 hz1 hz2 rfl (by decide) _ 0 [] rfl HOWN.out ad L c (bytesL L d) rfl (by rw [bytesL_len]; omega) HNEWS.out (bytesL_one L d) (by unfold maxLen; omega) (by omega) (by simp) ?_; intro v' w1 hown1 hgrow1 _; have HB1 := Lib.hid (((Below.refl w.heap.size w).alloc (Nat.le_refl _) (.cells #[] 5)).grown hgrow1 (by simp) (by intro k hk; cases hk; exact Nat.le_refl _)); have HW1 := Lib.hid (show w1.ownsRow w.heap.size 5 1 v' L (bytesL L d) from by simpa using hown1); obtain ⟨a', c', hvv⟩ := rrow_len HW1.out; clear hown1 hgrow1; obtain rfl := hvv) | ((refine wpList_build_eq (o := ⟨some 17, _, _, _, _, _⟩) ?hg0 144 ?pt0 ?ho0 (blank.cells (.slice a' L c') (.slice none 0 0)) ?hb0 ?_); (case ho0 => rfl); (case hg0 => rfl); (case hb0 => (simp only [List.map_toArray, List.map_cons, List.map_nil]; exact rbuilt_new _ _ _))))
    have H1 := Lib.hid (rmade_in (w := w) HL.out.1 HL.out.2 hd HW1.out)
    refine (rfresh_in H1.out).mono ?_
    rintro e w2 ⟨rfl, H2, K2⟩
    have HX := Lib.hid (And.intro H2 K2)
    clear H2 K2
    go_wp2_with fail
    go_ret2
    refine ⟨_, _, rfl, HX.out.1, HB1.out.size, fun k hk => (World.ownsRow.lt HW1.out k hk).1, ?_⟩
    exact Keeps.toBelow (HB1.out.alloc HB1.out.size _) HX.out.2 (by simp; have := HB1.out.size; omega) (fun i h => by rw [h]; exact HB1.out.size)
set_option maxHeartbeats 1000000 in
theorem rnew_bad (a : Option Addr) (m c : Nat) (h : m % 512 ≠ 0 ∨ 32768 < m) :
    Calls Try.prog 55 #[.slice a m c] w fun e w' => e = .returned (.tuple #[.pointer none, .int .i64 140]) ∧ w = w' := by
  by_cases h1 : m % 512 = 0
  · have q : (32768 : Int) < (m : Int) := by omega
    have q2 : ((m : Int) % 512 != 0) = false := by simp; omega
    clear h h1
    go_enter Try.func55, Try.ntmps55
    go_wp2_with fail
    go_ret2
    exact ⟨rfl, rfl⟩
  · have q2 : ((m : Int) % 512 != 0) = true := by simp; omega
    clear h h1
    go_enter Try.func55, Try.ntmps55
    go_wp2_with fail
    go_ret2
    exact ⟨rfl, rfl⟩
end
end Go.Proofs.Ytojmpdddfnkffaa.Ide

