/- Steps of a proof: ExBoth, together. -/
import Derived.Test.YtmpcafdgkbpneaaGreatS28
import Derived.Test.YtmpcafdgkbpneaaGreatS37
import Derived.Test.YtmpcafdgkbpneaaGreatS5
/- except's laws: an environment and the document's. -/
open List renaming getElem_toArray → lz0, getElem_cons_zero → lz1, getElem_cons_succ → lz2, setIfInBounds_toArray → lz3, set_cons_zero → lz4, set_cons_succ → lz5
set_option maxHeartbeats 4000000
set_option maxRecDepth 20000
namespace Go.Proofs.YtmpcafdgkbpneaaGreat
open Go.RowKit Go.MapKept
set_option linter.unusedVariables false
set_option linter.unusedSimpArgs false
attribute [local go_sem ↓] Go.wp_at_zero Go.wp_at_succ

section
variable {b pm : Nat} {R : RS} {n : Nat} {d : Nat → Nat} {v : Value} {w0 w : World} {A0 : Nat → Prop} {os : List Ob}
theorem busnew_call (T : Hp w0 A0 w os) (i : Nat) (hi : os[i]? = some (oRam pm R)) (H : Ide.Reads w v (n * 512) d) (hn : n ≤ 64) (hd : ∀ i, d i < 256) :
    Calls Tryz.prog 38 #[.pointer (some ⟨pm, 0, none⟩), v] w fun e w' => ∃ b, e = .returned (.tuple #[.pointer (some ⟨b, 0, none⟩), .int .i64 0]) ∧ Hp w0 A0 w' (os.set i (oBus b pm (Bs.new R n d))) := by
 refine (T.call i (Q := fun e o => ∃ b, e = .returned (.tuple #[.pointer (some ⟨b, 0, none⟩), .int .i64 0]) ∧ o = oBus b pm (Bs.new R n d)) hi fun A a => ?_).mono ?_
 ·refine (new_hp (Hp.one a) H hn hd).mono ?_
  rintro e w1 ⟨b, rfl, T1⟩
  exact ⟨_, ⟨b, rfl, rfl⟩, T1.un⟩
 ·rintro e w1 ⟨o, ⟨b, rfl, rfl⟩, T1⟩
  exact ⟨b, rfl, T1⟩
theorem refnew_call (T : Hp w0 A0 w os) (i : Nat) (hi : os[i]? = some (oRef pm R)) (H : Ide.Reads w v (n * 512) d) (hn : n ≤ 64) (hd : ∀ i, d i < 256) :
    Calls Tryz.prog 40 #[.pointer (some ⟨pm, 0, none⟩), v] w fun e w' => ∃ b, e = .returned (.tuple #[.pointer (some ⟨b, 0, none⟩), .int .i64 0]) ∧ Hp w0 A0 w' (os.set i (oRBus b pm (Bs.new R n d))) := by
 refine (T.call i (Q := fun e o => ∃ b, e = .returned (.tuple #[.pointer (some ⟨b, 0, none⟩), .int .i64 0]) ∧ o = oRBus b pm (Bs.new R n d)) hi fun A a => ?_).mono ?_
 ·refine (rnew_hp (Hp.one a) H hn hd).mono ?_
  rintro e w1 ⟨b, rfl, T1⟩
  exact ⟨_, ⟨b, rfl, rfl⟩, T1.un⟩
 ·rintro e w1 ⟨o, ⟨b, rfl, rfl⟩, T1⟩
  exact ⟨b, rfl, T1⟩
theorem vmnew_call (T : Hp w0 A0 w os) (i : Nat) (hi : os[i]? = some (oRam pm R)) (hw : Wide R) :
    Calls Tryz.prog 37 #[.pointer (some ⟨pm, 0, none⟩), .int .i64 8] w fun e w' => ∃ vb, e = .returned (.tuple #[.pointer (some ⟨vb, 0, none⟩), .int .i64 0]) ∧ Hp w0 A0 w' (os.set i (Ob.all [oVk vb ⟨8, pm⟩ 0, oRam pm R])) := by
 refine (T.call i (Q := fun e o => ∃ vb, e = .returned (.tuple #[.pointer (some ⟨vb, 0, none⟩), .int .i64 0]) ∧ o = Ob.all [oVk vb ⟨8, pm⟩ 0, oRam pm R]) hi fun A a => ?_).mono ?_
 ·refine (vnew_any a hw 8 (by decide) 8 rfl).mono ?_
  rintro e w1 ⟨vb, H, rfl, hV, M⟩
  obtain ⟨B, S, hB, hS, hd, hH⟩ := vm_split hV
  exact ⟨_, ⟨vb, rfl, rfl⟩, H, ⟨B, S, hB, ⟨S, fun _ => False, hS, fun _ h => h, fun _ _ h => h, fun k => ⟨.inl, fun h => h.elim id False.elim⟩⟩, hd, hH⟩, M⟩
 ·rintro e w1 ⟨o, ⟨b, rfl, rfl⟩, T1⟩
  exact ⟨b, rfl, T1⟩
theorem Hp.toEn {eb vb bb : Nat} {pl : Pl} {C : CpuS} (T : Hp w0 A0 w ([Ob.box eb (.cells (envCells C vb bb) 40), oVk vb pl n, oRam pl.rb R] ++ os)) (hC : C.ok) (hw : Wide R) : Hp w0 A0 w (oEn eb vb bb pl n ⟨C, R⟩ :: os) :=
 T.pack fun A a => by
  obtain ⟨B1, D1, ⟨b1, e1⟩, ⟨B2, D2, b2, ⟨B3, D3, b3, d3, f3, g3⟩, f2, g2⟩, f1, g1⟩ := a
  have hD : ∀ k, D1 k ↔ B2 k ∨ B3 k := fun k => by
   rw [g2 k, g3 k]
   exact ⟨fun h => h.elim .inl fun h => h.elim .inr fun h => (d3 k h).elim, fun h => h.elim .inl fun h => .inr (.inl h)⟩
  refine ⟨fun k => B2 k ∨ B3 k, ⟨b1, hC, vm_join b2 b3 (fun k h1 h2 => f2 k h1 ((g3 k).2 (.inl h2))) hw, fun h => f1 eb ((e1 eb).2 rfl) ((hD eb).2 h)⟩, fun k => ?_⟩
  rw [g1 k, hD k, e1 k]
end
section
variable {b pm : Nat} {R : RS} {n : Nat} {d : Nat → Nat} {v : Value} {w0 w : World} {A0 : Nat → Prop} {os : List Ob}
theorem Hp.both (T : Hp w0 A0 w os) {w' : World} {S S' : Nat → Prop} {b b' : Nat} (h : Two w w' b S R b' S' R) : Hp w0 A0 w' (os ++ [Ob.all [oRam b R, oRef b' R]]) :=
 T.new (A := fun k => S k ∨ S' k) h.B ⟨S, S', h.m, ⟨S', fun _ => False, h.r, fun _ h => h, fun _ _ h => h, fun k => ⟨.inl, fun h => h.elim id False.elim⟩⟩, h.d, fun k => Iff.rfl⟩ (fun k h1 => h1.elim (h.l1 k) (h.l2 k))
theorem wds_below {w w1 : World} {a : Option Addr} {len : Nat} {at_ v : Nat → Nat} (h : WordsIn w a len at_ v) (hb : Below w.heap.size w w1) : WordsIn w1 a len at_ v := by
 rcases h with h | ⟨b, off, e, h⟩
 ·exact .inl h
 ·exact .inr ⟨b, off, e, h.below hb⟩
def dk2 (R : RS) : Bs := Bs.new R 2 (Ide.dsk 0)
def refCells (C : CpuS) (rm rb : Nat) : List Value := C.cells ++ [Value.pointer (some ⟨rm, 0, none⟩), Value.pointer (some ⟨rb, 0, none⟩), Value.int .i64 0, Value.int .i64 0, Value.int .u32 0, Value.bool false, Value.int .i64 0, Value.bool false, Value.int .u32 0, Value.int .u32 0]
theorem yieldsIf_build {P : Program} {ops : Array Oper} {S : World → Prop} {op : Oper} {a : Act} (hw : Region.wanted op (yielded ops a.tmps) = true) (t : TypeId) (parts : Array (Nat × Operand)) (ho : op.op = .build t parts) (cells : Array Value) (ps : List (Nat × Value))
    (hp : (parts.map fun (i, x) => (i, a.eval x)).toList = ps) (hf : P.built t ps = some cells) : YieldsIf P ops S op (.agg cells) a :=
 .inl ⟨hw, fun w _ => by
  subst hp
  unfold execOp
  simp only [ho, Sem.run_bind, run_build w t _ cells hf, Result.andThen_ok, Sem.run_pure]⟩
theorem c_range {w0 w : World} {A0 : Nat → Prop} {x y : Ob} {os : List Ob} {cb : Nat} {cL : List Value} (T : Hp w0 A0 w (x :: y :: Ob.box cb (.cells cL.toArray 36) :: os)) : w.rangeAt cb 0 cL := fun j v hv => by
 rw [Nat.zero_add, cell_at (T.box 2 rfl), List.getElem?_toArray, hv]
theorem built_env (C : CpuS) (vb bb : Nat) : Tryz.prog.built 40 [(0, .agg C.cells.toArray), (1, .pointer (some ⟨vb, 0, none⟩)), (2, .pointer (some ⟨bb, 0, none⟩))] = some (C.cells ++ [Value.pointer (some ⟨vb, 0, none⟩), Value.pointer (some ⟨bb, 0, none⟩)]).toArray := by kernel_rfl
theorem built_ref (C : CpuS) (vb bb : Nat) : Tryz.prog.built 66 [(0, .agg C.cells.toArray), (1, .pointer (some ⟨vb, 0, none⟩)), (2, .pointer (some ⟨bb, 0, none⟩))] = some (refCells C vb bb).toArray := by kernel_rfl
theorem both17 {w : World} {C : CpuS} (hC : C.ok) {a1 : Option Addr} {l c1 : Nat} {at_ v : Nat → Nat} (W : WordsIn w a1 l at_ v) (hl : l ≤ 9223372036854775807) :
    Calls Tryz.prog 14 #[.agg C.cells.toArray, .slice a1 l c1] w fun e w' => ∃ eb vb bb pm rb rbb rm, e = .returned (.tuple #[.pointer (some ⟨eb, 0, none⟩), .pointer (some ⟨rb, 0, none⟩)]) ∧
     Hp w (fun _ => False) w' [Ob.box eb (.cells (envCells C vb bb) 40), oVk vb ⟨8, pm⟩ 0, oBus bb pm (dk2 (bothR 16 at_ v l (fun _ => 0) 0)), oRBus rbb rm (dk2 (bothR 16 at_ v l (fun _ => 0) 0))] := by
 have HC := Lib.hid hC
 have hlen : (Tryz.prog.info? 36).map (·.size) = some C.cells.length := by rw [C.cells_len]; exact info83
 have hE := fun vb bb => built_env C vb bb
 have hF := fun vb bb => built_ref C vb bb
 have hG : ∀ vb bb, envCells C vb bb = (C.cells ++ [Value.pointer (some ⟨vb, 0, none⟩), Value.pointer (some ⟨bb, 0, none⟩)]).toArray := fun _ _ => rfl
 obtain ⟨fE, hfE⟩ : ∃ f : Nat → Nat → Array Value, f = envCells C := ⟨_, rfl⟩
 obtain ⟨fR, hfR⟩ : ∃ f : Nat → Nat → List Value, f = refCells C := ⟨_, rfl⟩
 have hE : ∀ vb bb, Tryz.prog.built 40 [(0, .agg C.cells.toArray), (1, .pointer (some ⟨vb, 0, none⟩)), (2, .pointer (some ⟨bb, 0, none⟩))] = some (fE vb bb) := fun vb bb => by rw [hfE]; exact built_env C vb bb
 have hF : ∀ vb bb, Tryz.prog.built 66 [(0, .agg C.cells.toArray), (1, .pointer (some ⟨vb, 0, none⟩)), (2, .pointer (some ⟨bb, 0, none⟩))] = some (fR vb bb).toArray := fun vb bb => by rw [hfR]; exact built_ref C vb bb
 have hone : ∀ vb bb, (fE vb bb).all (·.oneCell') = true := fun vb bb => by rw [hfE]; kernel_rfl
 have htwo : ∀ vb bb, (fR vb bb).toArray.all (·.oneCell') = true := fun vb bb => by rw [hfR]; kernel_rfl
 rw [← hfE]
 generalize C.cells = cL at *
 have HX := Lib.hid (And.intro hlen (And.intro hE hF))
 clear hfE hfR hG hlen hE hF hone htwo
 have HL := Lib.hid (And.intro W hl)
 obtain ⟨R, hR⟩ : ∃ R, R = bothR 16 at_ v l (fun _ => 0) 0 := ⟨_, rfl⟩
 have hRW : Wide R := by rw [hR]; exact Wide.both _ _ _ _ _ _
 have HW := Lib.hid hRW
 have HR := Lib.hid hR
 rw [← hR]
 obtain ⟨o, ho⟩ : ∃ o, o = Obj.cells cL.toArray 36 := ⟨_, rfl⟩
 have H0 := Lib.hid (show Hp w (fun _ => False) (w.alloc (.cells cL.toArray 36)) [Ob.box w.heap.size (.cells cL.toArray 36)] from (Hp.zero w).make _)
 clear hC W hl hR ho o hRW
 go_enter Tryz.func14, Tryz.ntmps14
 go_wp2_with fail
 change Calls _ _ _ (w.alloc (.cells cL.toArray 36)) _
 refine (both_any _ 16 a1 l c1 at_ v (wds_below HL.out.1 ((Below.refl _ _).alloc (Nat.le_refl _) _)) none 0 0 (fun _ => 0) (.inl rfl) HL.out.2 (by decide)).mono ?_
 rintro e w1 ⟨m, S, r, S', rfl, T⟩
 rw [← HR.out] at T
 have T1 := ((H0.out.both T).front 1 rfl).open_
 change Hp _ _ _ [oRam m R, oRef r R, Ob.box w.heap.size (.cells cL.toArray 36)] at T1
 have HT1 := Lib.hid T1
 clear T T1 H0
 generalize w.heap.size = cb at *
 go_wp2_with fail
 refine (vmnew_call HT1.out 0 rfl HW.out).mono ?_
 rintro e w2 ⟨vb, rfl, T2⟩
 have HT2 := Lib.hid (show Hp w (fun _ => False) w2 [oVk vb ⟨8, m⟩ 0, oRef r R, Ob.box cb (.cells cL.toArray 36), oRam m R] from T2.two 0 rfl)
 clear T2 HT1
 go_wp2_with fail
 refine (Ide.lawdisk_any 2 (by decide) (by decide) 0 (by decide) w2).mono ?_
 rintro e w3 ⟨dv, rfl, hr, hb⟩
 have HD := Lib.hid (Ide.reads_row (show w3.ownsRow w2.heap.size 5 1 dv (2 * 512) (Ide.bytesL (2 * 512) (Ide.dsk 0)) from hr))
 have HT3 := Lib.hid (HT2.out.grow hb)
 obtain ⟨da, dc, rfl, -⟩ := HD.out
 clear HT2 hr hb
 go_wp2_with fail
 refine (busnew_call HT3.out 3 rfl HD.out (by decide) (Ide.dsk_lt 0)).mono ?_
 rintro e w4 ⟨bb, rfl, T4⟩
 have HT4 := Lib.hid (show Hp w (fun _ => False) w4 [oVk vb ⟨8, m⟩ 0, oRef r R, Ob.box cb (.cells cL.toArray 36), oBus bb m (dk2 R)] from T4)
 clear T4 HT3 HD
 go_wp2_with fail
 refine (Ide.lawdisk_any 2 (by decide) (by decide) 0 (by decide) w4).mono ?_
 rintro e w5 ⟨dv, rfl, hr, hb⟩
 have HD := Lib.hid (Ide.reads_row (show w5.ownsRow w4.heap.size 5 1 dv (2 * 512) (Ide.bytesL (2 * 512) (Ide.dsk 0)) from hr))
 have HT5 := Lib.hid (HT4.out.grow hb)
 obtain ⟨da, dc, rfl, -⟩ := HD.out
 clear HT4 hr hb
 go_wp2_with fail
 refine (refnew_call HT5.out 1 rfl HD.out (by decide) (Ide.dsk_lt 0)).mono ?_
 rintro e w6 ⟨rbb, rfl, T6⟩
 have HT6 := Lib.hid (show Hp w (fun _ => False) w6 [oVk vb ⟨8, m⟩ 0, oRBus rbb r (dk2 R), Ob.box cb (.cells cL.toArray 36), oBus bb m (dk2 R)] from T6)
 clear T6 HT5 HD
 go_upto_region 7 with (fail)
 have HH := Lib.hid (show Hp w (fun _ => False) w6.drew [oVk vb ⟨8, m⟩ 0, oRBus rbb r (dk2 R), Ob.box cb (.cells cL.toArray 36), oBus bb m (dk2 R)] from HT6.out.drew)
 refine wp_region_held_drew (S := fun w' => Hp w (fun _ => False) w' [oVk vb ⟨8, m⟩ 0, oRBus rbb r (dk2 R), Ob.box cb (.cells cL.toArray 36), oBus bb m (dk2 R)]) (by kernel_rfl) HH.out (fun hHeld => ?_)
 refine wpAnyH_take (i := 0) (oi := _) (v := _) rfl (by kernel_rfl) (by kernel_rfl) (by kernel_rfl) (fun _ _ _ h => h) (yieldsIf_load_mid (by rfl) _ _ rfl _ _ rfl cL _ (fun _ h => c_range h) Tryz.underlying36 rfl HX.out.1) (by assumption) ?_
 simp only [Act.put, lz0, lz1, lz2, lz3, lz4, lz5]
 refine wpAnyH_take (i := 1) (oi := _) (v := ?_) rfl (by kernel_rfl) (by kernel_rfl) (by kernel_rfl) (fun _ _ _ h => h) (Or.inl ⟨by rfl, ?_⟩) (by assumption) ?_
 rotate_left
 ·(intro w hSw; (try dsimp only at hSw); go_simp <;> rfl)
 refine wpAnyH_take (i := 2) (oi := _) (v := ?_) rfl (by kernel_rfl) (by kernel_rfl) (by kernel_rfl) (fun _ _ _ h => h) (Or.inl ⟨by rfl, ?_⟩) (by assumption) ?_
 rotate_left
 ·(intro w hSw; (try dsimp only at hSw); go_simp <;> rfl)
 simp only [Act.put, lz0, lz1, lz2, lz3, lz4, lz5]
 refine wpAnyH_take (i := 5) (oi := _) (v := _) rfl (by kernel_rfl) (by kernel_rfl) (by kernel_rfl) (fun _ _ _ h => h) (yieldsIf_load_mid (by rfl) _ _ rfl _ _ rfl cL _ (fun _ h => c_range h) Tryz.underlying36 rfl HX.out.1) (by assumption) ?_
 simp only [Act.put, lz0, lz1, lz2, lz3, lz4, lz5]
 refine wpAnyH_take (i := 6) (oi := _) (v := ?_) rfl (by kernel_rfl) (by kernel_rfl) (by kernel_rfl) (fun _ _ _ h => h) (Or.inl ⟨by rfl, ?_⟩) (by assumption) ?_
 rotate_left
 ·(intro w hSw; (try dsimp only at hSw); go_simp <;> rfl)
 refine wpAnyH_take (i := 7) (oi := _) (v := ?_) rfl (by kernel_rfl) (by kernel_rfl) (by kernel_rfl) (fun _ _ _ h => h) (Or.inl ⟨by rfl, ?_⟩) (by assumption) ?_
 rotate_left
 ·(intro w hSw; (try dsimp only at hSw); go_simp <;> rfl)
 simp only [Act.put, lz0, lz1, lz2, lz3, lz4, lz5]
 refine wpAnyH_take (i := 3) (oi := _) (v := _) rfl (by kernel_rfl) (by kernel_rfl) (by kernel_rfl) (fun _ _ _ h => h) (yieldsIf_build (by rfl) _ _ rfl (fE vb bb) _ (by kernel_rfl) (HX.out.2.1 vb bb)) (by assumption) ?_
 simp only [Act.put, lz0, lz1, lz2, lz3, lz4, lz5]
 refine wpAnyH_take (i := 8) (oi := _) (v := _) rfl (by kernel_rfl) (by kernel_rfl) (by kernel_rfl) (fun _ _ _ h => h) (yieldsIf_build (by rfl) _ _ rfl (fR r rbb).toArray _ (by kernel_rfl) (HX.out.2.2 r rbb)) (by assumption) ?_
 simp only [Act.put, lz0, lz1, lz2, lz3, lz4, lz5]
 refine wpAnyH_ready (rs := [4, 9]) (by kernel_rfl) (by decide) (AllReadyH.cons rfl (fun K hK => ?_) (AllReadyH.cons rfl (fun K hK => ?_) AllReadyH.nil))
 ·go_simp
  refine hK.out _ _ (hHeld.alloc _) (fun hHeld => ?_)
  clear hK K
  try simp only [Act.put, lz0, lz1, lz2, lz3, lz4, lz5]
  refine wpAnyH_take (i := 10) (oi := _) (v := ?_) rfl (by kernel_rfl) (by kernel_rfl) (by kernel_rfl) (fun _ _ _ h => h) (Or.inl ⟨by rfl, ?_⟩) (by assumption) ?_
  rotate_left
  ·(intro w hSw; (try dsimp only at hSw); go_simp <;> rfl)
  simp only [Act.put, lz0, lz1, lz2, lz3, lz4, lz5]
  refine wpAnyH_ready (rs := [9]) (by kernel_rfl) (by decide) (AllReadyH.cons rfl (fun K hK => ?_) AllReadyH.nil)
  go_simp
  refine hK.out _ _ (hHeld.alloc _) (fun hHeld => ?_)
  clear hK K
  try simp only [Act.put, lz0, lz1, lz2, lz3, lz4, lz5]
  refine wpAnyH_take (i := 11) (oi := _) (v := ?_) rfl (by kernel_rfl) (by kernel_rfl) (by kernel_rfl) (fun _ _ _ h => h) (Or.inl ⟨by rfl, ?_⟩) (by assumption) ?_
  rotate_left
  ·(intro w hSw; (try dsimp only at hSw); go_simp <;> rfl)
  simp only [Act.put, lz0, lz1, lz2, lz3, lz4, lz5]
  refine wpAnyH_done (by kernel_rfl) ?_ _
  change Exit.then _ _ _ _ ((w6.drew.alloc (.cells (fE vb bb) 40)).alloc (.cells (fR r rbb).toArray 66))
  have T8 := Lib.hid (show Hp w (fun _ => False) ((w6.drew.alloc (.cells (fE vb bb) 40)).alloc (.cells (fR r rbb).toArray 66)) [oVk vb ⟨8, m⟩ 0, oRBus rbb r (dk2 R), Ob.box cb (.cells cL.toArray 36), oBus bb m (dk2 R), Ob.box w6.drew.heap.size (.cells (fE vb bb) 40), Ob.box (w6.drew.alloc (.cells (fE vb bb) 40)).heap.size (.cells (fR r rbb).toArray 66)] from (HH.out.make _).make _)
  clear HH HT6 hHeld
  have hx : (w6.drew.alloc (.cells (fE vb bb) 40)).heap.size = w6.heap.size + 1 := by simp
  generalize (w6.drew.alloc (.cells (fE vb bb) 40)).heap.size = x2 at *
  generalize (w6.drew.alloc (.cells (fE vb bb) 40)).alloc (.cells (fR r rbb).toArray 66) = w8 at *
  go_wp2_with fail
  go_returns
  exact ⟨_, vb, bb, m, _, rbb, r, rfl, Hp.left (l1 := [Ob.box w6.drew.heap.size (.cells (fE vb bb) 40), oVk vb ⟨8, m⟩ 0, oBus bb m (dk2 R), oRBus rbb r (dk2 R)]) ((((T8.out.front 1 rfl).front 3 rfl).front 2 rfl).front 4 rfl)⟩
 ·go_simp
  refine hK.out _ _ (hHeld.alloc _) (fun hHeld => ?_)
  clear hK K
  try simp only [Act.put, lz0, lz1, lz2, lz3, lz4, lz5]
  refine wpAnyH_ready (rs := [4]) (by kernel_rfl) (by decide) (AllReadyH.cons rfl (fun K hK => ?_) AllReadyH.nil)
  go_simp
  refine hK.out _ _ (hHeld.alloc _) (fun hHeld => ?_)
  clear hK K
  try simp only [Act.put, lz0, lz1, lz2, lz3, lz4, lz5]
  refine wpAnyH_take (i := 10) (oi := _) (v := ?_) rfl (by kernel_rfl) (by kernel_rfl) (by kernel_rfl) (fun _ _ _ h => h) (Or.inl ⟨by rfl, ?_⟩) (by assumption) ?_
  rotate_left
  ·(intro w hSw; (try dsimp only at hSw); go_simp <;> rfl)
  simp only [Act.put, lz0, lz1, lz2, lz3, lz4, lz5]
  refine wpAnyH_take (i := 11) (oi := _) (v := ?_) rfl (by kernel_rfl) (by kernel_rfl) (by kernel_rfl) (fun _ _ _ h => h) (Or.inl ⟨by rfl, ?_⟩) (by assumption) ?_
  rotate_left
  ·(intro w hSw; (try dsimp only at hSw); go_simp <;> rfl)
  simp only [Act.put, lz0, lz1, lz2, lz3, lz4, lz5]
  refine wpAnyH_done (by kernel_rfl) ?_ _
  change Exit.then _ _ _ _ ((w6.drew.alloc (.cells (fR r rbb).toArray 66)).alloc (.cells (fE vb bb) 40))
  have T8 := Lib.hid (show Hp w (fun _ => False) ((w6.drew.alloc (.cells (fR r rbb).toArray 66)).alloc (.cells (fE vb bb) 40)) [oVk vb ⟨8, m⟩ 0, oRBus rbb r (dk2 R), Ob.box cb (.cells cL.toArray 36), oBus bb m (dk2 R), Ob.box w6.drew.heap.size (.cells (fR r rbb).toArray 66), Ob.box (w6.drew.alloc (.cells (fR r rbb).toArray 66)).heap.size (.cells (fE vb bb) 40)] from (HH.out.make _).make _)
  clear HH HT6 hHeld
  have hx : (w6.drew.alloc (.cells (fR r rbb).toArray 66)).heap.size = w6.heap.size + 1 := by simp
  generalize (w6.drew.alloc (.cells (fR r rbb).toArray 66)).heap.size = x2 at *
  generalize (w6.drew.alloc (.cells (fR r rbb).toArray 66)).alloc (.cells (fE vb bb) 40) = w8 at *
  go_wp2_with fail
  go_returns
  have T9 := T8.out
  rw [hx] at T9
  exact ⟨_, vb, bb, m, _, rbb, r, rfl, Hp.left (l1 := [Ob.box (w6.heap.size + 1) (.cells (fE vb bb) 40), oVk vb ⟨8, m⟩ 0, oBus bb m (dk2 R), oRBus rbb r (dk2 R)]) ((((T9.front 1 rfl).front 3 rfl).front 2 rfl).front 5 rfl)⟩
end
end Go.Proofs.YtmpcafdgkbpneaaGreat

