/- pic: the order in which lines are told, as a plain law over chips. -/
import Derived.Test.YtfijohgbgadhiaaPicJ
namespace Go.Proofs.Ytfijohgbgadhiaa
open Go.RowKit
set_option linter.unusedVariables false

theorem bit_ask0 (c d : Chip) (j : Nat) (hj : j < 8) : (ask0 c d).testBit j = if j = 2 then isTold d.asks d.masked d.served else c.asks.testBit j := by
  have h1 : ∀ j : Fin 8, (251).testBit j.val = !decide (j.val = 2) := by decide +kernel
  have h2 : ∀ j : Fin 8, (4).testBit j.val = decide (j.val = 2) := by decide +kernel
  have e1 := h1 ⟨j, hj⟩
  have e2 := h2 ⟨j, hj⟩
  simp only at e1 e2
  unfold ask0
  cases ht : isTold d.asks d.masked d.served
  · rw [if_neg (by simp), Nat.testBit_and, e1]
    by_cases h : j = 2 <;> simp [h]
  · rw [if_pos rfl, Nat.testBit_or, Nat.testBit_and, e1, e2]
    by_cases h : j = 2 <;> simp [h]

def pc (j : Nat) : Nat := if j < 2 then j else j + 7
/-- The line that stands at place k of the order. -/
def lineAt (k : Nat) : Nat := if k < 2 then k else if k < 10 then k + 6 else k - 7
structure Inv (lo hi ml mh k : Nat) (c d : Chip) : Prop where
  cm : c.masked = ml
  dm : d.masked = mh
  cs : c.served = 0
  ds : d.served = 0
  ce : c.ends = false
  de : d.ends = false
  cb : c.base = 32
  db : d.base = 40
  ca : ∀ j, j < 8 → j ≠ 2 → k ≤ pc j → c.asks.testBit j = lo.testBit j
  cz : ∀ j, j < 8 → j ≠ 2 → pc j < k → (c.asks.testBit j && !ml.testBit j) = false
  da : ∀ j, j < 8 → k ≤ j + 2 → d.asks.testBit j = hi.testBit j
  dz : ∀ j, j < 8 → j + 2 < k → (d.asks.testBit j && !mh.testBit j) = false

theorem tz0 : tz8 0 = 8 := by kernel_rfl
theorem tzp (n : Nat) (hn : n < 8) : tz8 (2 ^ n) = n := by
  have h : ∀ n : Fin 8, tz8 (2 ^ n.val) = n.val := by decide +kernel
  exact h ⟨n, hn⟩
theorem eoi_pow (n : Nat) (hn : n < 8) : (2 ^ n) &&& ((2 ^ n + 255) % 256) = 0 := by
  have h : ∀ n : Fin 8, (2 ^ n.val) &&& ((2 ^ n.val + 255) % 256) = 0 := by decide +kernel
  exact h ⟨n, hn⟩
theorem eoi (c : Chip) : outC c true 32 = { c with served := c.served &&& ((c.served + 255) % 256) } := rfl

section
variable {lo hi ml mh k : Nat} {c d : Chip} (I : Inv lo hi ml mh k c d) (hc : c.ok) (hd : d.ok) (h2 : ml.testBit 2 = false) (hml : ml < 256) (hmh : mh < 256)
include I hc hd h2 hml hmh

omit hc h2 hml in
theorem d_none (hk : 10 ≤ k) : isTold d.asks d.masked d.served = false := by
  refine isTold_no ?_ (by rw [I.ds]; decide)
  refine bits_eq (left_lt hd.asks) (by decide) fun j hj => ?_
  rw [bit_left _ _ _ (by rw [I.dm]; exact hmh) hj, I.dm, I.dz j hj (by omega)]
  simp
omit h2 in
theorem take_c (n : Nat) (hn : n < 8) (n2 : n ≠ 2) (hk : k = pc n) (ha : lo.testBit n = true) (hm : ml.testBit n = false) :
    told0 c d = true ∧ vec0 c d = 32 + n ∧ tkd c d = d ∧ tkc c d = takeC c n ∧ told0 (takeC c n) d = false ∧ Inv lo hi ml mh (k + 1) (outC (takeC c n) true 32) d := by
  have hlow : ∀ j, j < n → ((ask0 c d).testBit j && !ml.testBit j) = false := by
    intro j hj
    rw [bit_ask0 c d j (by omega)]
    by_cases j2 : j = 2
    · subst j2
      have hk10 : 10 ≤ k := by rw [hk]; unfold pc; rw [if_neg (by omega)]; omega
      rw [if_pos rfl, d_none I hd hmh hk10]; rfl
    · rw [if_neg j2]
      exact I.cz j (by omega) j2 (by rw [hk]; unfold pc; (repeat' split) <;> omega)
  have hl : tz8 (left (ask0 c d) c.masked) = n := by
    refine tz8_is (left_lt (ask0_lt c d hc.asks)) hn ?_ ?_
    · rw [bit_left _ _ _ (by rw [I.cm]; exact hml) hn, I.cm, bit_ask0 c d n hn, if_neg n2, I.ca n hn n2 (by omega), ha, hm]; rfl
    · intro j hj
      rw [bit_left _ _ _ (by rw [I.cm]; exact hml) (by omega), I.cm]; exact hlow j hj
  have ht : told0 c d = true := by
    unfold told0 isTold
    show decide (tz8 (left (ask0 c d) c.masked) < tz8 c.served) = true
    rw [hl, I.cs, tz0]; exact decide_eq_true hn
  have hsv : servedC c n = 2 ^ n := by unfold servedC; rw [I.ce, I.cs]; simp
  have hp : 2 ^ n < 256 := Nat.pow_lt_pow_right (a := 2) (by decide) hn
  refine ⟨ht, ?_, ?_, ?_, ?_, ?_⟩
  · unfold vec0 line0; rw [ht, hl, if_pos rfl, if_neg n2, I.cb]
  · unfold tkd line0; rw [ht, hl, if_pos rfl, if_neg n2]
  · unfold tkc line0; rw [ht, hl, if_pos rfl]
  · unfold told0 isTold
    show decide (tz8 (left (ask0 (takeC c n) d) c.masked) < tz8 (servedC c n)) = false
    rw [hsv, tzp n hn]
    refine decide_eq_false ?_
    have : n + 1 ≤ tz8 (left (ask0 (takeC c n) d) c.masked) := by
      refine tz8_ge (left_lt (ask0_lt (takeC c n) d (andNot_lt _ _ hc.asks))) (by omega) ?_
      intro j hj
      rw [bit_left _ _ _ (by rw [I.cm]; exact hml) (by omega), I.cm]
      by_cases e : j = n
      · subst e
        rw [bit_ask0 _ d j hn, if_neg n2]
        show ((c.asks &&& (255 - 2 ^ j)).testBit j && _) = _
        rw [Nat.testBit_and, bit_not _ _ hp hn, bit_pow j j hn hn]; simp
      · have h := hlow j (by omega)
        rw [bit_ask0 c d j (by omega)] at h
        rw [bit_ask0 _ d j (by omega)]
        by_cases j2 : j = 2
        · rw [if_pos j2] at h ⊢; exact h
        · rw [if_neg j2] at h ⊢
          show ((c.asks &&& (255 - 2 ^ n)).testBit j && _) = _
          rw [Nat.testBit_and]
          cases hq : c.asks.testBit j
          · simp
          · rw [hq] at h; simp at h; rw [h]; simp
    omega
  · rw [eoi]
    refine ⟨I.cm, I.dm, ?_, I.ds, I.ce, I.de, I.cb, I.db, ?_, ?_, fun j hj hjk => I.da j hj (by omega), ?_⟩
    · show servedC c n &&& ((servedC c n + 255) % 256) = 0
      rw [hsv]; exact eoi_pow n hn
    · intro j hj j2 hjk
      show (c.asks &&& (255 - 2 ^ n)).testBit j = _
      have ne : n ≠ j := by intro e; subst e; omega
      rw [Nat.testBit_and, bit_not _ _ hp hj, bit_pow n j hn hj, decide_eq_false ne, ← I.ca j hj j2 (by omega)]; simp
    · intro j hj j2 hjk
      show ((c.asks &&& (255 - 2 ^ n)).testBit j && _) = _
      by_cases e : j = n
      · subst e
        rw [Nat.testBit_and, bit_not _ _ hp hj, bit_pow j j hj hj]; simp
      · have h := I.cz j hj j2 (by
          have : pc j ≠ pc n := by unfold pc; (repeat' split) <;> omega
          omega)
        rw [Nat.testBit_and]
        cases hq : c.asks.testBit j
        · simp
        · rw [hq] at h; simp at h; rw [h]; simp
    · intro j hj hjk
      refine I.dz j hj ?_
      have : k ≠ j + 2 := by
        rw [hk]; unfold pc; split <;> omega
      omega
theorem take_d (j : Nat) (hj : j < 8) (hk : k = j + 2) (ha : hi.testBit j = true) (hm : mh.testBit j = false) :
    told0 c d = true ∧ vec0 c d = 40 + j ∧ tkd c d = takeC d j ∧ tkc c d = takeC c 2 ∧ told0 (takeC c 2) (takeC d j) = false ∧ Inv lo hi ml mh (k + 1) (outC (takeC c 2) true 32) (outC (takeC d j) true 32) := by
  have hp : 2 ^ j < 256 := Nat.pow_lt_pow_right (a := 2) (by decide) hj
  have dlow : ∀ i, i < j → (d.asks.testBit i && !mh.testBit i) = false := fun i hi => I.dz i (by omega) (by omega)
  have hld : tz8 (left d.asks d.masked) = j := by
    refine tz8_is (left_lt hd.asks) hj ?_ ?_
    · rw [bit_left _ _ _ (by rw [I.dm]; exact hmh) hj, I.dm, I.da j hj (by omega), ha, hm]; rfl
    · intro i hi
      rw [bit_left _ _ _ (by rw [I.dm]; exact hmh) (by omega), I.dm]; exact dlow i hi
  have htd : isTold d.asks d.masked d.served = true := by
    unfold isTold
    show decide (tz8 (left d.asks d.masked) < tz8 d.served) = true
    rw [hld, I.ds, tz0]; exact decide_eq_true hj
  have clow : ∀ i, i < 2 → (c.asks.testBit i && !ml.testBit i) = false := fun i hi => I.cz i (by omega) (by omega) (by unfold pc; rw [if_pos hi]; omega)
  have hl : tz8 (left (ask0 c d) c.masked) = 2 := by
    refine tz8_is (left_lt (ask0_lt c d hc.asks)) (by decide) ?_ ?_
    · rw [bit_left _ _ _ (by rw [I.cm]; exact hml) (by decide), I.cm, bit_ask0 c d 2 (by decide), if_pos rfl, htd, h2]; rfl
    · intro i hi
      rw [bit_left _ _ _ (by rw [I.cm]; exact hml) (by omega), I.cm, bit_ask0 c d i (by omega), if_neg (by omega)]; exact clow i hi
  have ht : told0 c d = true := by
    unfold told0 isTold
    show decide (tz8 (left (ask0 c d) c.masked) < tz8 c.served) = true
    rw [hl, I.cs, tz0]; rfl
  have hsc : servedC c 2 = 2 ^ 2 := by unfold servedC; rw [I.ce, I.cs]; simp
  have hsd : servedC d j = 2 ^ j := by unfold servedC; rw [I.de, I.ds]; simp
  have htk : tk1 d = takeC d j := by unfold tk1; rw [htd, hld, if_pos rfl]
  have dnext : ∀ i, i ≤ j → ((d.asks &&& (255 - 2 ^ j)).testBit i && !mh.testBit i) = false := by
    intro i hi
    rw [Nat.testBit_and, bit_not _ _ hp (by omega), bit_pow j i hj (by omega)]
    by_cases e : i = j
    · subst e; simp
    · have h := dlow i (by omega)
      cases hq : d.asks.testBit i
      · simp
      · rw [hq] at h; simp at h; rw [h]; simp
  refine ⟨ht, ?_, ?_, ?_, ?_, ?_⟩
  · unfold vec0 line0; rw [ht, hl, if_pos rfl, if_pos rfl]; unfold vec1; rw [htd, hld, if_pos rfl, I.db]
  · unfold tkd line0; rw [ht, hl, if_pos rfl, if_pos rfl, htk]
  · unfold tkc line0; rw [ht, hl, if_pos rfl]
  · have nt : isTold (takeC d j).asks (takeC d j).masked (takeC d j).served = false := by
      unfold isTold
      show decide (tz8 (left (d.asks &&& (255 - 2 ^ j)) d.masked) < tz8 (servedC d j)) = false
      rw [hsd, tzp j hj]
      refine decide_eq_false ?_
      have : j + 1 ≤ tz8 (left (d.asks &&& (255 - 2 ^ j)) d.masked) := by
        refine tz8_ge (left_lt (andNot_lt _ _ hd.asks)) (by omega) ?_
        intro i hi
        rw [bit_left _ _ _ (by rw [I.dm]; exact hmh) (by omega), I.dm]; exact dnext i (by omega)
      omega
    unfold told0
    have hs : (takeC c 2).served = 2 ^ 2 := hsc
    unfold isTold
    show decide (tz8 (left (ask0 (takeC c 2) (takeC d j)) c.masked) < tz8 (servedC c 2)) = false
    rw [hsc, tzp 2 (by decide)]
    refine decide_eq_false ?_
    have : 3 ≤ tz8 (left (ask0 (takeC c 2) (takeC d j)) c.masked) := by
      refine tz8_ge (left_lt (ask0_lt _ _ (andNot_lt _ _ hc.asks))) (by omega) ?_
      intro i hi
      rw [bit_left _ _ _ (by rw [I.cm]; exact hml) (by omega), I.cm, bit_ask0 _ _ i (by omega)]
      by_cases i2 : i = 2
      · rw [if_pos i2, nt]; rfl
      · rw [if_neg i2]
        show ((c.asks &&& (255 - 2 ^ 2)).testBit i && _) = _
        have h := clow i (by omega)
        rw [Nat.testBit_and]
        cases hq : c.asks.testBit i
        · simp
        · rw [hq] at h; simp at h; rw [h]; simp
    omega
  · rw [eoi, eoi]
    refine ⟨I.cm, I.dm, ?_, ?_, I.ce, I.de, I.cb, I.db, ?_, ?_, ?_, ?_⟩
    · show servedC c 2 &&& ((servedC c 2 + 255) % 256) = 0
      rw [hsc]; exact eoi_pow 2 (by decide)
    · show servedC d j &&& ((servedC d j + 255) % 256) = 0
      rw [hsd]; exact eoi_pow j hj
    · intro i hi i2 hik
      show (c.asks &&& (255 - 2 ^ 2)).testBit i = _
      rw [Nat.testBit_and, bit_not _ _ (by decide) hi, bit_pow 2 i (by decide) hi, decide_eq_false (fun e => i2 e.symm), ← I.ca i hi i2 (by omega)]; simp
    · intro i hi i2 hik
      show ((c.asks &&& (255 - 2 ^ 2)).testBit i && _) = _
      have h := I.cz i hi i2 (by
        have : pc i ≠ k := by unfold pc; (repeat' split) <;> omega
        omega)
      rw [Nat.testBit_and]
      cases hq : c.asks.testBit i
      · simp
      · rw [hq] at h; simp at h; rw [h]; simp
    · intro i hi hik
      show (d.asks &&& (255 - 2 ^ j)).testBit i = _
      rw [Nat.testBit_and, bit_not _ _ hp hi, bit_pow j i hj hi, decide_eq_false (by omega : ¬ j = i), ← I.da i hi (by omega)]; simp
    · intro i hi hik
      exact dnext i (by omega)
omit hc hd h2 hml hmh in
/-- A line that does not ask, or is masked, is passed by. -/
theorem skip_c (n : Nat) (hn : n < 8) (n2 : n ≠ 2) (hk : k = pc n) (h : lo.testBit n = false ∨ ml.testBit n = true) : Inv lo hi ml mh (k + 1) c d := by
  refine ⟨I.cm, I.dm, I.cs, I.ds, I.ce, I.de, I.cb, I.db, fun j hj j2 hjk => I.ca j hj j2 (by omega), ?_, fun j hj hjk => I.da j hj (by omega), ?_⟩
  · intro j hj j2 hjk
    by_cases e : j = n
    · subst e
      rw [I.ca j hj j2 (by omega)]
      rcases h with h | h <;> simp [h]
    · refine I.cz j hj j2 ?_
      have : pc j ≠ pc n := by unfold pc; (repeat' split) <;> omega
      omega
  · intro j hj hjk
    refine I.dz j hj ?_
    have : k ≠ j + 2 := by rw [hk]; unfold pc; split <;> omega
    omega
omit hc hd h2 hml hmh in
theorem skip_d (n : Nat) (hn : n < 8) (hk : k = n + 2) (h : hi.testBit n = false ∨ mh.testBit n = true) : Inv lo hi ml mh (k + 1) c d := by
  refine ⟨I.cm, I.dm, I.cs, I.ds, I.ce, I.de, I.cb, I.db, fun j hj j2 hjk => I.ca j hj j2 (by omega), ?_, fun j hj hjk => I.da j hj (by omega), ?_⟩
  · intro j hj j2 hjk
    refine I.cz j hj j2 ?_
    have : pc j ≠ k := by unfold pc; (repeat' split) <;> omega
    omega
  · intro j hj hjk
    by_cases e : j = n
    · subst e
      rw [I.da j hj (by omega)]
      rcases h with h | h <;> simp [h]
    · exact I.dz j hj (by omega)
omit h2 in
theorem at_end (hk : 15 ≤ k) : told0 c d = false ∧ vec0 c d = 39 := by
  have ht : told0 c d = false := by
    unfold told0
    refine isTold_no ?_ (by rw [I.cs]; decide)
    refine bits_eq (left_lt (ask0_lt c d hc.asks)) (by decide) fun j hj => ?_
    rw [bit_left _ _ _ (by rw [I.cm]; exact hml) hj, I.cm, bit_ask0 c d j hj]
    by_cases j2 : j = 2
    · rw [if_pos j2, d_none I hd hmh (by omega)]; simp
    · rw [if_neg j2, I.cz j hj j2 (by unfold pc; split <;> omega)]; simp
  exact ⟨ht, by unfold vec0; rw [ht, I.cb]; rfl⟩
end

-- THE CALLS, THAT TURN NO OTHER BLOCK
theorem out_k {w0 w : World} {b : Nat} {c d : Chip} (S : St w0 w b c d) (n : Int) (v : Nat) (hv : v < 256) :
    Calls Try.prog 10 #[.pointer (some ⟨b, 0, none⟩), .int .i64 n, .int .u8 v] w fun r w' => r = .returned (.int .i64 (perr n)) ∧ St w0 w' b (otc c n v) (otd d n v) ∧ Keeps (· = b) w w' :=
  (out_any b c d S.cok S.dok n v hv w S.P).mono fun _ _ ⟨h, H, k⟩ => ⟨h, S.keep H (otc_ok S.cok n v hv) (otd_ok S.dok n v hv) k, k⟩
theorem pending_k {w0 w : World} {b : Nat} {c d : Chip} (S : St w0 w b c d) :
    Calls Try.prog 12 #[.pointer (some ⟨b, 0, none⟩)] w fun r w' => r = .returned (.bool (told0 c d)) ∧ St w0 w' b c d ∧ Keeps (· = b) w w' :=
  (pending_any b c d S.cok S.dok w S.P).mono fun _ _ ⟨h, n, k⟩ => ⟨h, by rw [k]; exact S.drew n, by rw [k]; exact (Keeps.refl _ _).drewN n⟩
theorem ack_k {w0 w : World} {b : Nat} {c d : Chip} (S : St w0 w b c d) :
    Calls Try.prog 13 #[.pointer (some ⟨b, 0, none⟩)] w fun r w' => r = .returned (.int .i64 (vec0 c d : Nat)) ∧ St w0 w' b (tkc c d) (tkd c d) ∧ Keeps (· = b) w w' :=
  (ack_any b c d S.cok S.dok w S.P).mono fun _ _ ⟨h, H, k⟩ => ⟨h, S.keep H (tkc_ok S.cok) (tkd_ok S.dok) k, k⟩
theorem bit_mod (x k : Nat) : (((x : Int) / 2 ^ k).tmod 2 == 1) = x.testBit k := by
  have e : ((x : Int) / 2 ^ k) = ((x / 2 ^ k : Nat) : Int) := by simp
  rw [e, Nat.testBit_eq_decide_div_mod_eq, Int.tmod_eq_emod_of_nonneg (Int.natCast_nonneg _)]
  generalize x / 2 ^ k = q
  rw [Bool.eq_iff_iff, beq_iff_eq, decide_eq_true_eq]
  omega
theorem bit_mod0 (x k : Nat) : (((x : Int) / 2 ^ k).tmod 2 == 0) = !x.testBit k := by
  have e : ((x : Int) / 2 ^ k) = ((x / 2 ^ k : Nat) : Int) := by simp
  rw [e, Nat.testBit_eq_decide_div_mod_eq, Int.tmod_eq_emod_of_nonneg (Int.natCast_nonneg _)]
  generalize x / 2 ^ k = q
  rw [Bool.eq_iff_iff, beq_iff_eq, Bool.not_eq_true', decide_eq_false_iff_not]
  omega
end Go.Proofs.Ytfijohgbgadhiaa
