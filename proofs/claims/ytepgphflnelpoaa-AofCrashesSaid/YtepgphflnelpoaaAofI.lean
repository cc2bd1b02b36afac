/-
  Laid together: AofSame, FreeBorrow, AofRewrite, FlatDeep, AofOp, DiskCrash, AofLaid, FrameFlip, AofCrashP, FreeSame.
-/
import Derived.Test.YtepgphflnelpoaaAofH

section
set_option linter.unusedSimpArgs false
set_option linter.unusedVariables false
set_option maxRecDepth 20000
namespace Go.Proofs.Ytepgphflnelpoaa
open Go.Free Go.RowKit Go.Proofs
set_option maxHeartbeats 4000000

theorem formedEv (zs : Array Value) (h : zs.size = kdsEvent.length) : (Value.agg zs).formed Try.prog 48 = true := by
  have hc : Try.prog.cellsOf 48 = 26 := by kernel_rfl
  unfold Value.formed
  rw [Try.underlying48]
  simp only [hc, h]
  rfl
def saE (w0 : World) (L : List EvV) (i : Nat) : Env := [(0, old w0 (row 26 (evsC L))), (1, old w0 (row 26 (evsC L))), (12, .ex (vi L.length)), (13, .ex (vi i))]
theorem sameE_fn (L : List EvV) (hl : L.length ≤ 1000000) (hok : ∀ x ∈ L, x.okV) : Spc Try.prog 15 [row 26 (evsC L), row 26 (evsC L)] fun _ => .ex (.bool true) := by
  refine Spc.intro Try.func15 rfl (Nat.le_of_ble_eq_true rfl) fun w0 => ?_
  have hI := hIb w0
  repeat (first | refine Plan.move rfl rfl rfl rfl ?_ | refine Plan.assign rfl rfl rfl rfl ?_ | refine J.seq (J.region mixed hI (by kernel_rfl) ?_) | refine J.seq (J.seq (J.region mixed hI (by kernel_rfl) ?_)))
  refine Plan.lenRow (m := L.length) rfl rfl rfl rfl (Sub.old fun _ h => h) Try.underlying35 (by rw [evs_len]) (by decide) ?_
  repeat (refine Plan.move rfl rfl rfl rfl ?_)
  refine Plan.lenRow (m := L.length) rfl rfl rfl rfl (Sub.old fun _ h => h) Try.underlying35 (by rw [evs_len]) (by decide) ?_
  repeat ((refine Plan.ints rfl rfl rfl rfl rfl rfl ?_; (skip)))
  refine Plan.boolv (y := false) (by simp) ?_
  repeat (first | refine Plan.move rfl rfl rfl rfl ?_ | refine J.seq (J.seq (J.region mixed hI (by kernel_rfl) ?_)) | refine J.condF rfl ?_ | refine J.skip ?_)
  refine Plan.lenRow (m := L.length) rfl rfl rfl rfl (Sub.old fun _ h => h) Try.underlying35 (by rw [evs_len]) (by decide) ?_
  repeat (refine Plan.move rfl rfl rfl rfl ?_)
  refine J.block (J.loop (saE w0 L) (fun i => i ≤ L.length) (fun i => L.length - i) 0 (Nat.zero_le _) ?_ ?_)
  · repeat (first | exact Weak.nil | refine Weak.cons rfl (Sub.refl _) ?_)
  intro i hi
  repeat (first | (refine Plan.ints rfl rfl rfl rfl rfl rfl ?_; (skip)) | refine J.seq (J.region mixed hI (by kernel_rfl) ?_))
  refine J.seq (J.condD rfl (fun hc => ?_) (fun hc => ?_))
  · have hlt : i < L.length := by omega
    have hx : L[i]? = some L[i] := List.getElem?_eq_getElem hlt
    have hgd : L.getD i ev0 = L[i] := by rw [List.getD_eq_getElem?_getD, hx]; rfl
    have hki := hok _ (List.getElem_mem hlt)
    repeat (refine J.skip ?_)
    refine J.seq (J.block ?_)
    repeat (first | refine Plan.move rfl rfl rfl rfl ?_ | refine Plan.assign rfl rfl rfl rfl ?_ | refine J.seq (J.region mixed hI (by kernel_rfl) ?_))
    refine Plan.indexAddr EvV.enc 26 L ev0 rfl rfl rfl rfl (Sub.old fun _ h => h) rfl eltE encE (by omega) (by omega) ?_
    rw [Int.toNat_natCast, hgd]
    refine Plan.loadAggP rfl rfl rfl rfl (Sub.refl _) Try.underlying48 rfl (by rw [encE]; kernel_rfl) ?_
    repeat (refine Plan.move rfl rfl rfl rfl ?_)
    refine Plan.indexAddr EvV.enc 26 L ev0 rfl rfl rfl rfl (Sub.old fun _ h => h) rfl eltE encE (by omega) (by omega) ?_
    rw [Int.toNat_natCast, hgd]
    refine Plan.loadAggP rfl rfl rfl rfl (Sub.refl _) Try.underlying48 rfl (by rw [encE]; kernel_rfl) ?_
    refine Plan.eqAgg (m := 9) (l := kdsEvent) (xs := L[i].enc) (ys := L[i].enc) (r := true) (v := false) rfl rfl rfl rfl rfl (by decide) (by kernel_rfl) (by kernel_rfl) (by kernel_rfl) (enc_ok hki) (enc_ok hki) formedEv (by simp) (.inr ⟨rfl, rfl⟩) ?_
    repeat (first | refine Plan.move rfl rfl rfl rfl ?_ | (refine Plan.ints rfl rfl rfl rfl rfl rfl ?_; (refine Plan.int (i64r (by omega)) ?_)) | refine J.region mixed hI (by kernel_rfl) ?_ | refine J.condF rfl ?_ | refine J.skip ?_)
    refine Plan.int (y := ((i + 1 : Nat) : Int)) (by omega) ?_
    repeat (fail)
    exact Nrm.next (i + 1) (by omega) (by omega) (by repeat (first | exact Weak.nil | refine Weak.cons rfl (Sub.refl _) ?_))
  refine J.exit ?_
  repeat (first | refine Plan.assign rfl rfl rfl rfl ?_ | refine J.seq (J.region mixed hI (by kernel_rfl) ?_))
  exact J.ret (Nrm.ret1 rfl (fun _ h => h) rfl fun B _ => Sub.refl _)

def evK : EvV := ⟨0, 1, 0, fun _ => 0, 11, [107], [], [], 0, 0, 0⟩
theorem evK_ok : evK.okV := by refine ⟨?_, ?_, ?_, fun i _ => ?_, ?_, ?_, ?_, ?_, ?_, ?_, ?_⟩ <;> simp [evK, in64]
theorem evK_right : rightP evK := by
  refine ⟨by decide, by decide, by decide, fun i _ => by simp [evK], by decide, by decide, by decide⟩
theorem small_num {u : Nat} (h : u < 128) : num u = [UInt8.ofNat u] := by
  unfold num; rw [Nat.div_eq_of_lt h, numHi_zero, lastD, Nat.mod_eq_of_lt h]; rfl
theorem evK_enc : encB evK = [0, 1, 0, 0, 0, 0, 0, 0, 0, 0, 0, 0, 0, 0, 0, 0, 0, 0, 0, 11, 1, 107] := by
  simp [encB, encB4, encB3, encB2, encB1, fieldP, valueP, numP, refP, evK, nums, encNs, numI, txt, small_num]
theorem evK_len : (evF evK).length = 29 := by unfold evF; rw [fPut_length, evK_enc]; rfl
theorem awakeL_fn : Spc Try.prog 9 [] fun _ => .ex (.bool true) := by
  refine Spc.intro Try.func9 rfl (Nat.le_of_ble_eq_true rfl) fun w0 => ?_
  have hI := hIb w0
  have hA := Own.below w0
  have hbg := begun_fn 200
  have hc : clampR 200 = 200 := by decide
  rw [hc] at hbg
  have hadd : addM log0 [] 200 evK = (⟨[], false, [evK]⟩, evF evK, 0) := by
    unfold addM
    rw [if_pos evK_right, if_pos (by rw [evK_len]; decide)]
    rfl
  refine J.heap0 1000 (newB w0) ?_
  repeat (first | refine Plan.assign rfl rfl rfl rfl ?_ | refine J.seq (J.region mixed hI (by kernel_rfl) ?_))
  refine Plan.callN (key := 1000) rfl rfl rfl (hbg) Try.func17 rfl rfl (by intro _ e; cases e; decide) (by repeat (first | exact Opnds.nil | refine Opnds.cons rfl (by exact Sub.refl _) ?_)) rfl hA ?_
  rintro ⟨γ, β⟩ _
  repeat (first | refine Plan.move rfl rfl rfl rfl ?_ | refine Plan.assign rfl rfl rfl rfl ?_ | refine Plan.extract rfl rfl rfl rfl rfl ?_)
  refine J.open1 (key := 1000) rfl ?_
  repeat (first | refine Plan.move rfl rfl rfl rfl ?_ | refine Plan.pick rfl rfl rfl rfl rfl ?_ | refine Plan.eqlPtr rfl rfl rfl rfl (by kernel_rfl) ?_ | refine J.seq (J.seq (J.region mixed hI (by kernel_rfl) ?_)))
  refine Plan.callR (key := 1000) (B := 0) (q := 1) rfl rfl rfl (disk_Room β [] 0 200) Try.func31 rfl rfl (fun _ _ => Nat.zero_le _) (by repeat (first | exact Opnds.nil | refine Opnds.cons rfl (by exact Sub.refl _) ?_)) rfl rfl (by decide) ?_
  repeat (first | refine Plan.move rfl rfl rfl rfl ?_ | refine Plan.pick rfl rfl rfl rfl rfl ?_ | (refine Plan.ints rfl rfl rfl rfl rfl rfl ?_; (skip)) | refine J.seq (J.region mixed hI (by kernel_rfl) ?_) | refine J.condF rfl ?_ | refine J.skip ?_)
  refine Plan.build (cells := #[vi 0, vi 1]) rfl rfl (ps := [(1, _)]) rfl (Parts.cons rfl Parts.nil) (by kernel_rfl) ?_
  refine Plan.build (cells := evK.op.toArray) rfl rfl (ps := [(0, _), (1, _)]) rfl (Parts.cons rfl (Parts.cons rfl Parts.nil)) (by kernel_rfl) ?_
  refine Plan.build (cells := evK.enc.toArray) rfl rfl (ps := [(0, _), (3, _)]) rfl (Parts.cons rfl (Parts.cons rfl Parts.nil)) (by kernel_rfl) ?_
  have had := add_fn γ β log0 0 [] 0 200 evK evK_ok (by decide) (by decide) (by decide)
  rw [hadd] at had
  refine Plan.callL (key := 1000) [0, 1] [] rfl rfl rfl (had) Try.func21 rfl rfl (by intro _ e; cases e; decide) (by repeat (first | exact Opnds.nil | refine Opnds.cons rfl (by exact Sub.refl _) ?_)) rfl hA rfl rfl rfl ?_
  intro _ _
  repeat (first | refine Plan.move rfl rfl rfl rfl ?_ | refine Plan.assign rfl rfl rfl rfl ?_ | (refine Plan.ints rfl rfl rfl rfl rfl rfl ?_; (skip)) | refine J.seq (J.region mixed hI (by kernel_rfl) ?_))
  refine Plan.callR (key := 1000) (B := 0) (q := 0) rfl rfl rfl (log_Events γ β ⟨[], false, [evK]⟩ 0 (by decide)) Try.func16 rfl rfl (fun _ _ => Nat.zero_le _) (by repeat (first | exact Opnds.nil | refine Opnds.cons rfl (by exact Sub.refl _) ?_)) rfl rfl (by decide) ?_
  refine Plan.lenRow (m := 1) rfl rfl rfl rfl Sub.own Try.underlying35 (by rw [evs_len]; rfl) (by decide) ?_
  repeat (first | refine Plan.move rfl rfl rfl rfl ?_ | refine Plan.pick rfl rfl rfl rfl rfl ?_ | (refine Plan.ints rfl rfl rfl rfl rfl rfl ?_; (skip)))
  refine Plan.callR (key := 1000) (B := 0) (q := 1) rfl rfl rfl (disk_Bytes β (evF evK) 0 200 (by rw [evK_len]; decide)) Try.func13 rfl rfl (fun _ _ => Nat.zero_le _) (by repeat (first | exact Opnds.nil | refine Opnds.cons rfl (by exact Sub.refl _) ?_)) rfl rfl (by decide) ?_
  refine Plan.lenB rfl rfl rfl rfl Sub.own Try.underlying27 ?_
  rw [evK_len]
  repeat (first | refine Plan.assign rfl rfl rfl rfl ?_ | refine Plan.pick rfl rfl rfl rfl rfl ?_ | (refine Plan.ints rfl rfl rfl rfl rfl rfl ?_; (skip)))
  exact J.ret (Nrm.ret1 rfl (fun _ h => h) rfl fun B _ => Sub.refl _)
end Go.Proofs.Ytepgphflnelpoaa
end

section
set_option linter.unusedSimpArgs false
set_option linter.unusedVariables false
set_option maxRecDepth 20000
namespace Go.Free
open Go.RowKit
/-- The blocks G, as they are in w1. -/
def frozenC (w1 : World) (G : Nat → Prop) : Chunk where
  holds w S := (∀ b, S b ↔ G b) ∧ ∀ b, G b → b < w.heap.size ∧ w.heap[b]? = w1.heap[b]?
  lt w S b h hb := (h.2 b ((h.1 b).1 hb)).1
  loc w w' S h hS := ⟨h.1, fun b hb => by
    have h2 := h.2 b hb
    have h3 := hS b ((h.1 b).2 hb)
    refine ⟨?_, h3.trans h2.2⟩
    rw [Array.getElem?_eq_getElem h2.1] at h3
    exact (Array.getElem?_eq_some_iff.1 h3).1⟩
theorem Ent.thaw {w1 : World} {G : Nat → Prop} {c : Chunk} (h : c.holds w1 G) : Ent (frozenC w1 G) c := fun w S hf =>
  ⟨G, c.loc w1 w G h fun b hb => (hf.2 b hb).2, fun b hb => (hf.1 b).2 hb⟩
theorem frozen_row {w1 : World} {G : Nat → Prop} {sz : Nat} {xs : List Value} {v : Value} (h : rowH sz xs w1 v) (hG : ∀ b, b < w1.heap.size → G b) : ∀ w : World, (∀ b, G b → w.heap[b]? = w1.heap[b]?) → rowH sz xs w v := fun w hw => by
  obtain ⟨A, m, cap, e1, e2, e3, e4, e5, e6⟩ := h
  refine ⟨A, m, cap, e1, e2, e3, e4, e5, fun j u hu => ?_⟩
  obtain ⟨ad, ha, hc⟩ := e6 j u hu
  refine ⟨ad, ha, ?_⟩
  have hb : (ad.add j).block < w1.heap.size := by
    rcases Nat.lt_or_ge (ad.add j).block w1.heap.size with h | h
    · exact h
    · simp only [World.cell?, Array.getElem?_eq_none h] at hc; cases hc
  rw [← hc]
  simp only [World.cell?, hw _ (hG _ hb)]
section
variable {P : Program} {ops : Array Oper} {Q : Exit → Act → World → Prop} {n : Nat} {I : World → Prop} {k i : Nat} {E : Env} {o : Oper} {d : Bool} {A : Nat → Prop} {H : List Chunk} {key : Nat}
/-- A chunk of the heap is taken as it is now. -/
theorem J.freeze {cd : Code} {c : Chunk} (q : Nat) (hk : look E key = some (heap A H)) (hq : H[q]? = some c) (h : ∀ w1 G, c.holds w1 G → J P n I cd Q ((key, heap A (H.set q (frozenC w1 G))) :: E)) : J P n I cd Q E := fun a w h1 h2 h3 => by
  obtain ⟨φ, hL, hLA⟩ := h3 key _ hk
  have hob := hL.holds q _ hq
  have hql := (List.getElem?_eq_some_iff.1 hq).1
  refine h w (φ q) hob a w h1 h2 (heap_put h3 (φ := φ) ⟨fun p c' hp => ?_, hL.apart, fun p b hb => by rw [List.length_set]; exact hL.bound p b hb⟩ hLA)
  by_cases hpq : p = q
  · subst hpq
    rw [List.getElem?_set_self hql] at hp
    cases hp
    exact ⟨fun _ => Iff.rfl, fun b hb => ⟨c.lt w _ b hob hb, rfl⟩⟩
  · rw [List.getElem?_set_ne (Ne.symm hpq)] at hp
    exact hL.holds p c' hp
/-- A call to which memory is handed that the function itself leaves as it is. -/
theorem Plan.callFz {f : FuncId} {xs : List Operand} {ts : Array TypeId} {fs : List Fa} {Hc Hr : List Chunk} {X : Type} {ok : X → Prop} {R : X → Fa} {c' : X → List Chunk} {fn : Func} {w1 : World} {G : Nat → Prop} (qs rs : List Nat) (ho : ops[i]? = some o)
    (hop : o.op = .call { callee := .value (.func f), args := xs.toArray, argTypes := ts }) (hg : wantB ops E o = some true) (hc : SpcC P f fs (allC (Hc ++ [frozenC w1 G])) ok R (fun x => allC (c' x ++ [frozenC w1 G])))
    (hf : P.funcs[f]? = some fn) (hbody : fn.body.isNone = false) (hname : (fn.name == "runtime.NumGoroutine") = false) (hd : ∀ d, o.dst = some d → d < n)
    (hx : Opnds I E xs fs) (hk : look E key = some (heap A H)) (hA : Own I A) (hp : Free.pick H qs = Hc) (hr : Free.pick H rs = Hr) (hn : nodupB (qs ++ rs) = true)
    (hF : ∀ w, I w → ∀ b, G b → b < w.heap.size ∧ w.heap[b]? = w1.heap[b]?) (hGA : ∀ b, A b → ¬ G b)
    (h : ∀ x, ok x → Plan P ops Q n I d k (i + 1) (setE o.dst (R x) ((key, heap A (c' x ++ Hr)) :: sieve E))) (hq : d = false ∨ barB ops i = true := by first | exact .inl rfl | exact .inr (by kernel_rfl)) : Plan P ops Q n I d (k + 1) i E :=
  Plan.turn ho hg hd hk hA (fun a w φ hI hs hs' hL hLA hfr hsh => by
    unfold wpOp
    simp only [ho, wantB_spec ho hsh (fun t _ f hf => hs t f hf) hg, if_true]
    refine .inl ?_
    unfold Oper.wp
    have hrun : (execOp a.eval o).run P w = .ok (.enter f (xs.map a.eval).toArray) w := by
      have hn : ¬ fn.name = "runtime.NumGoroutine" := by simpa using hname
      have hb : ¬ fn.body = none := by intro e; rw [e] at hbody; cases hbody
      simp [execOp, hop, resolve, invoke, callFunc, Deferred.ofValue, Act.eval, hf, hb, hn]
    rw [hrun]
    simp only [Oper.upon]
    have hden := Opnds.dens (a := a) hI hx (fun x hxm f hf => hs' x (by simp [hop, Op.operands, Call.operands, hxm]) f hf)
    have hsp : Ent (allC H) (Free.sepC (allC Hc) (allC Hr)) := (Ent.pickC (qs ++ rs) (by rw [Free.pick, List.map_append]; exact (congrArg (· ++ _) hp).trans (congrArg (Hc ++ ·) hr)) hn).trans Ent.splitC
    obtain ⟨G0, hG0, hG0s⟩ := hsp w _ hL.all
    obtain ⟨Gc, Gd, hG, hdis, hcH, hdH⟩ := hG0
    have hin : ∀ b, Gc b ∨ Gd b → A b := fun b hb => by
      obtain ⟨q, hq⟩ := hG0s b ((hG b).2 hb)
      exact hLA q b hq
    have hfz : (frozenC w1 G).holds w G := ⟨fun _ => Iff.rfl, hF w hI⟩
    obtain ⟨S, hS, hSs⟩ := (Ent.joinC (H1 := Hc) (H2 := [frozenC w1 G])) w (fun b => Gc b ∨ G b) ⟨Gc, G, fun _ => Iff.rfl, fun b hb => hGA b (hin b (.inl hb)), hcH,
      ⟨G, fun _ => False, fun b => ⟨.inl, fun e => e.elim id fun x => x.elim⟩, fun _ _ e => e, hfz, fun _ e => e⟩⟩
    refine (hc w _ S hden hS).mono ?_
    rintro e w' ⟨v, x, rfl, hok, hK, hR, F', hF', hFb⟩
    obtain ⟨S2, hS2, hS2s⟩ := (Ent.splitC (H1 := c' x) (H2 := [frozenC w1 G])) w' F' hF'
    obtain ⟨Gx, Gf, g1, g2, g3, g4⟩ := hS2
    obtain ⟨Ga, Gb, k1, _, k3, _⟩ := g4
    have hGx : ∀ b, Gx b → Gc b ∨ w.heap.size ≤ b := fun b hb => by
      rcases hFb b (hS2s b ((g1 b).2 (.inl hb))) with h1 | h1
      · rcases hSs b h1 with h2 | h2
        · exact .inl h2
        · exact absurd ((k1 b).2 (.inl ((k3.1 b).2 h2))) (g2 b hb)
      · exact .inr h1
    have hK' : Kept Gc w w' := ⟨hK.os, hK.tape, hK.output, hK.size, fun b hb hn => by
      by_cases hGb : G b
      · rw [(k3.2 b hGb).2, (hfz.2 b hGb).2]
      · exact hK.block b hb fun e => (hSs b e).elim hn hGb⟩
    have hdH' : (allC Hr).holds w' Gd := (allC Hr).keep hdH hK' (fun b hb hc => hdis b hc hb)
    obtain ⟨G2, hG2, hG2s⟩ := (Ent.joinC (H1 := c' x) (H2 := Hr)) w' (fun b => Gx b ∨ Gd b) ⟨Gx, Gd, fun b => Iff.rfl, fun b hb hb2 => by
      rcases hGx b hb with h1 | h1
      · exact hdis b h1 hb2
      · have := (allC Hr).lt w Gd b hdH hb2; omega, g3, hdH'⟩
    obtain ⟨φ', hL', hφ'⟩ := Lies.ofAll hG2
    refine ⟨v, R x, c' x ++ Hr, φ', rfl, hK'.mono (fun b _ hb => hin b (.inl hb)), hL', fun q b hb => ?_, hR, h x hok⟩
    rcases hG2s b (hφ' q b hb) with h1 | h1
    · rcases hGx b h1 with h2 | h2
      · exact hin b (.inl h2)
      · exact hfr b h2
    · exact hin b (.inr h1)) hq
theorem Plan.appendFullStrS {x y : Operand} {t u e : TypeId} {xs : List Value} {p : List UInt8} {f : Fa} (ho : ops[i]? = some o) (hop : o.op = .call { callee := .builtin .append, args := #[x, y], argTypes := #[t, u] })
    (hg : wantB ops E o = some true) (hx : opF E x = some f) (hfs : Sub I f (fullF xs)) (hy : opF E y = some (.ex (str p))) (hu : P.underlying u = some .string) (he : Elt P t e (.int .u8 0) 1 1) (hlim : xs.length + p.length ≤ 140737488355328)
    (h : Plan P ops Q n I d k (i + 1) (setE o.dst (row 1 (xs ++ bs p)) E)) : Plan P ops Q n I d (k + 1) i E :=
  Plan.step ho (Step.run ho hg fun a w hI hs' => by
    obtain ⟨A, m, e1, hrow⟩ := hfs w _ hI (hs' x (by simp [hop, Op.operands, Call.operands]) _ hx)
    have e2 := hs' y (by simp [hop, Op.operands, Call.operands]) _ hy
    simp only [Fa.den, str] at e2
    rw [e1] at hrow
    obtain ⟨v', w', hr, h2, h3⟩ := run_append_full_string (P := P) (ty := o.type) he hu hrow hlim
    refine ⟨v', w', ?_, h3, h2⟩
    simp only [execOp, hop, resolve, invoke, builtin, List.map_toArray, List.map_cons, List.map_nil, Sem.run_bind, Sem.run_pure, Result.andThen_ok, e1, e2, hr]) h
theorem Sub.tightFull {I : World → Prop} {B e m : Nat} {cs : List Value} : Sub I (tight B e 1 m cs) (fullF cs) := fun w v _ ⟨h, g, hv⟩ => ⟨_, _, hv, own_row h⟩
end
end Go.Free
end

section
set_option linter.unusedSimpArgs false
set_option linter.unusedVariables false
set_option maxRecDepth 20000
namespace Go.Proofs.Ytepgphflnelpoaa
open Go.Free Go.RowKit Go.Proofs
set_option maxHeartbeats 4000000

def okAll (L : List EvV) : Bool := L.all fun e => decide (rightP e)
theorem okAll_iff {L : List EvV} : okAll L = true ↔ ∀ e ∈ L, rightP e := by simp [okAll]
def rwB (s : List UInt8) (L : List EvV) : List UInt8 := fPut (1 :: s) ++ L.flatMap evF
def rwM (m : LogV) (f : Nat) (l : List UInt8) (df r : Nat) (s : List UInt8) (L : List EvV) : (LogV × Nat) × (List UInt8 × Nat) × Nat :=
  if 65528 < s.length then ((m, f), (l, df), 4) else if okAll L = false then ((m, f), (l, df), 1)
  else if (rwB s L).length ≤ r then ((⟨s, true, L⟩, L.length), (rwB s L, (rwB s L).length), 0) else ((m, f), (l, df), 9)
theorem evFs_le {L : List EvV} (h : ∀ e ∈ L, rightP e) : (L.flatMap evF).length ≤ 707 * L.length := by
  induction L with
  | nil => simp
  | cons e r ih =>
    have h1 := evF_le (h e List.mem_cons_self)
    have h2 := ih fun x hx => h x (List.mem_cons_of_mem _ hx)
    rw [List.flatMap_cons, List.length_append, List.length_cons]; omega
theorem rwB_le {s : List UInt8} {L : List EvV} (hs : s.length ≤ 65528) (h : ∀ e ∈ L, rightP e) : (rwB s L).length ≤ 65535 + 707 * L.length := by
  have := evFs_le h
  unfold rwB; rw [List.length_append, fPut_length, List.length_cons]; omega
theorem log_closeL {γ β f cap : Nat} {m : LogV} {B : Option Addr} {Ds : List Chunk} : Ent (allC (obj γ [ptr β, str m.s, .bool m.b, .slice B m.l.length cap, vi f] :: rowEv B m.l.length cap (evsC m.l) :: Ds)) (allC (logC γ β m f :: Ds)) :=
  (Ent.splitC (H1 := [_, _])).trans (Ent.sep log_close (Ent.refl _))
def rwE (F G' : Nat → Prop) (w0 : World) (γ β : Nat) (m : LogV) (f : Nat) (l : List UInt8) (df r : Nat) (s : List UInt8) (L : List EvV) (v : Value) (x : Option Addr × Nat) (i : Nat) (B : Option Addr) (cap : Nat) : Env :=
  [(0, .ex (ptr γ)), (1, .ex (str s)), (2, .ex v), (7, .ex (.slice B (rwB s (L.take i)).length cap)), (35, .ex v), (36, .ex (vi L.length)), (37, .ex (vi i)),
   (1000, heap (fun b => (F b ∨ w0.heap.size ≤ b) ∧ ¬ G' b) [obj γ [ptr β, str m.s, .bool m.b, .slice x.1 m.l.length x.2, vi f], diskC β l df r, rowEv x.1 m.l.length x.2 (evsC m.l), rowB B cap (rwB s (L.take i))])]
theorem rewrite_fn (γ β : Nat) (m : LogV) (f : Nat) (l : List UInt8) (df r : Nat) (s : List UInt8) (L : List EvV) (v : Value) (w1 : World) (G : Nat → Prop)
    (hrow : ∀ w : World, (∀ b, G b → w.heap[b]? = w1.heap[b]?) → rowH 26 (evsC L) w v) (hr : r ≤ 65536) (hL : L.length ≤ 1000) (hok : ∀ e ∈ L, e.okV) :
    SpcC Try.prog 18 [.ex (ptr γ), .ex (str s), .ex v] (allC [logC γ β m f, diskC β l df r, frozenC w1 G]) (fun _ : Unit => True) (fun _ => .ex (vi (rwM m f l df r s L).2.2))
      (fun _ => allC [logC γ β (rwM m f l df r s L).1.1 (rwM m f l df r s L).1.2, diskC β (rwM m f l df r s L).2.1.1 (rwM m f l df r s L).2.1.2 r, frozenC w1 G]) := by
  refine SpcC.intro Try.func18 rfl (Nat.le_of_ble_eq_true rfl) fun w0 F => ?_
  have hI0 := kept_below F w0
  have hA0 := Own.kept F w0
  refine J.open1 (key := 1000) rfl ?_
  refine J.exC (key := 1000) (q := 0) rfl rfl fun x => ?_
  refine J.sepC (key := 1000) (q := 0) rfl rfl ?_
  refine J.frameC (key := 1000) 2 rfl rfl fun G' hG' => ?_
  have hI1 := framedC_I (c := frozenC w1 G) (F := G') hI0
  have hA1 := framedC_own (c := frozenC w1 G) (F := G') hA0
  have hI := hI1
  have hA := hA1
  have hsub : Sub (framedC (fun w => Kept F w0 w) (frozenC w1 G) G') (.ex v) (row 26 (evsC L)) := fun w y hw hy => by
    simp only [Fa.den] at hy
    subst hy
    exact hrow w fun b hb => (hw.2.2 b hb).2
  repeat (first | refine Plan.assign rfl rfl rfl rfl ?_ | refine J.seq (J.region mixed hI (by kernel_rfl) ?_))
  refine J.seq (J.block ?_)
  repeat (first | refine Plan.move rfl rfl rfl rfl ?_ | refine Plan.assign rfl rfl rfl rfl ?_ | refine Plan.pick rfl rfl rfl rfl rfl ?_ | refine Plan.lenStr rfl rfl rfl rfl Try.underlying9 ?_ | (refine Plan.ints rfl rfl rfl rfl rfl rfl ?_; (skip)) | refine Plan.nilOk rfl rfl rfl rfl ?_ | refine Plan.fieldC rfl rfl rfl rfl (by first | exact Try.underlying74 | exact Try.underlying55) rfl (by kernel_rfl) (by exact (rfl : _ = 0)) ?_ | refine Plan.loadC (key := 1000) (q := 0) rfl rfl rfl rfl rfl rfl (obj_reads1 rfl) (by first | exact Try.underlying3 | exact Try.underlying23) (by rfl) (by decide) ?_ | refine Plan.eqlPtr rfl rfl rfl rfl (by kernel_rfl) ?_ | refine J.seq (J.region mixed hI (by kernel_rfl) ?_) | refine J.condF rfl ?_)
  refine J.condD rfl (fun hc => ?_) (fun hc => ?_)
  · have he : rwM m f l df r s L = ((m, f), (l, df), 4) := by unfold rwM; rw [if_pos (by omega)]
    rw [he]
    repeat (first | refine Plan.assign rfl rfl rfl rfl ?_ | refine J.seq (J.region mixed hI (by kernel_rfl) ?_))
    refine J.unframeC (key := 1000) hG' rfl ?_
    exact J.ret (Nrm.retC1 (key := 1000) () rfl rfl rfl trivial (Sub.refl _) ((Ent.pickC (H' := [obj γ [ptr β, str m.s, .bool m.b, .slice x.1 m.l.length x.2, vi f], rowEv x.1 m.l.length x.2 (evsC m.l), diskC β l df r, frozenC w1 G]) [0, 2, 1, 3] rfl rfl).trans log_closeL))
  have hs : s.length ≤ 65528 := by omega
  refine J.skip ?_
  refine J.fresh (key := 1000) rfl hA fun B hBA => ?_
  have hI := hFresh (B := B) hI1
  have hA := own_fresh (B := B) hA1
  have hput := frame_Put (1 :: s) (by simp only [List.length_cons]; omega)
  rw [if_neg (by simp only [List.length_cons]; omega), if_neg (by simp only [List.length_cons]; omega)] at hput
  refine J.seq (J.region mixed hI (by kernel_rfl) ?_)
  refine Plan.litTight (B := B) (m := 1) (vs := [.int .u8 1]) rfl rfl rfl eltB rfl (fun _ h => h.2) rfl (by simp [Value.cells]) (by decide) ?_
  repeat (refine Plan.move rfl rfl rfl rfl ?_)
  refine Plan.appendFullStrS rfl rfl rfl rfl Sub.tightFull rfl Try.underlying9 eltB (by simp [flat, Value.cells]; omega) ?_
  have hb : flat [Value.int .u8 1] ++ bs s = bs (1 :: s) := rfl
  rw [hb]
  refine Plan.call (B := B) rfl rfl rfl hput Try.func38 rfl rfl (fun _ h => h.2) (by repeat (first | exact Opnds.nil | refine Opnds.cons rfl (by exact Sub.refl _) ?_)) ?_
  repeat (first | refine Plan.move rfl rfl rfl rfl ?_ | refine Plan.assign rfl rfl rfl rfl ?_ | refine Plan.extract rfl rfl rfl rfl rfl ?_)
  refine J.takeC (t := 7) (key := 1000) (B := B) rfl (Sub.refl _) rfl hBA fun b7 m7 c7 hm7 => ?_
  obtain rfl : m7 = (fPut (1 :: s)).length := by rw [bs_length] at hm7; omega
  refine J.idle (I' := framedC (fun w => Kept F w0 w) (frozenC w1 G) G') (fun w h => h.1) ?_
  clear hI hA
  have hI := hI1
  have hA := hA1
  repeat (first | refine Plan.move rfl rfl rfl rfl ?_ | refine J.seq (J.seq (J.region mixed hI (by kernel_rfl) ?_)))
  refine Plan.lenRow (m := L.length) rfl rfl rfl rfl hsub Try.underlying35 (by rw [evs_len]) (by decide) ?_
  repeat (refine Plan.move rfl rfl rfl rfl ?_)
  refine J.block (J.loop (fun t : Nat × Option Addr × Nat => rwE F G' w0 γ β m f l df r s L v x t.1 t.2.1 t.2.2) (fun t : Nat × Option Addr × Nat => t.1 ≤ L.length ∧ ∀ e ∈ L.take t.1, rightP e) (fun t => L.length - t.1) (0, b7, c7) ⟨Nat.zero_le _, fun e he => by simp at he⟩ ?_ ?_)
  · have h0 : rwB s (L.take 0) = fPut (1 :: s) := by simp [rwB]
    dsimp only
    rw [rwE, h0]
    repeat (first | exact Weak.nil | refine Weak.cons rfl (Sub.refl _) ?_)
  rintro ⟨i, Bb, cap⟩ ⟨hi, hri⟩
  dsimp only at hi hri
  change J _ _ _ _ _ (rwE F G' w0 γ β m f l df r s L v x i Bb cap)
  have hbl := rwB_le hs hri
  rw [List.length_take, Nat.min_eq_left hi] at hbl
  repeat (first | (refine Plan.ints rfl rfl rfl rfl rfl rfl ?_; (skip)) | refine J.seq (J.region mixed hI (by kernel_rfl) ?_))
  refine J.seq (J.condD rfl (fun hc => ?_) (fun hc => ?_))
  · have hlt : i < L.length := by omega
    have hx : L[i]? = some L[i] := List.getElem?_eq_getElem hlt
    obtain ⟨e, hee⟩ : ∃ e, e = L[i] := ⟨_, rfl⟩
    have hgd : L.getD i ev0 = e := by rw [hee, List.getD_eq_getElem?_getD, hx]; rfl
    have heM : e ∈ L := hee ▸ List.getElem_mem hlt
    have heo := hok e heM
    have hfr := framed_fn e heo
    have htk : L.take (i + 1) = L.take i ++ [e] := by rw [hee]; exact List.take_succ_eq_append_getElem hlt
    repeat (refine J.skip ?_)
    refine J.seq (J.block ?_)
    repeat (refine J.seq (J.region mixed hI (by kernel_rfl) ?_))
    refine Plan.indexAddr EvV.enc 26 L ev0 rfl rfl rfl rfl hsub rfl eltE encE (by omega) (by omega) ?_
    rw [Int.toNat_natCast, hgd]
    refine Plan.loadAggP rfl rfl rfl rfl (Sub.refl _) Try.underlying48 rfl (by rw [encE]; kernel_rfl) ?_
    refine Plan.allocC (key := 1000) (z := .agg ev0.enc.toArray) rfl rfl rfl (by intro _ e; cases e; decide) (by kernel_rfl) rfl hA fun ξ => ?_
    refine Plan.storeC (key := 1000) (q := 4) (off := 0) rfl rfl rfl rfl rfl rfl (encE_one e) (by show _ = some e.enc.toArray.size; kernel_rfl) rfl hA rfl (obj_pat (Nat.le_of_ble_eq_true rfl)) ?_
    repeat (refine J.seq (J.region mixed hI (by kernel_rfl) ?_))
    refine Plan.loadAggC (key := 1000) (q := 4) (vs := e.enc) rfl rfl rfl rfl rfl rfl obj_whole Try.underlying48 rfl (by rw [encE]; kernel_rfl) (by decide) ?_
    by_cases hp : rightP e
    · have hel := evF_le hp
      rw [if_pos hp, if_pos hp] at hfr
      refine Plan.call (B := 0) rfl rfl rfl (hfr) Try.func39 rfl rfl (fun _ _ => Nat.zero_le _) (by repeat (first | exact Opnds.nil | refine Opnds.cons rfl (by exact Sub.refl _) ?_)) ?_
      repeat (first | refine Plan.move rfl rfl rfl rfl ?_ | refine Plan.assign rfl rfl rfl rfl ?_ | refine Plan.extract rfl rfl rfl rfl rfl ?_ | (refine Plan.ints rfl rfl rfl rfl rfl rfl ?_; (skip)) | refine J.region mixed hI (by kernel_rfl) ?_ | refine J.seq (J.seq (J.region mixed hI (by kernel_rfl) ?_)) | refine J.condF rfl ?_ | refine J.skip ?_)
      refine Plan.appendC (key := 1000) (q := 3) (news := bs (evF e)) rfl rfl rfl rfl rfl Sub.own eltB (by intro _ e; cases e; decide) rfl hA rfl (bs_one _) (by simp only [bs_length]; omega) fun B2 m2 c2 hm2 => ?_
      have hnx : rwB s (L.take i) ++ evF e = rwB s (L.take (i + 1)) := by rw [htk]; simp [rwB]
      rw [← bs_append, hnx]
      obtain rfl : m2 = (rwB s (L.take (i + 1))).length := by rw [← hnx, List.length_append]; simp only [bs_length] at hm2; omega
      repeat (first | refine Plan.move rfl rfl rfl rfl ?_ | refine Plan.assign rfl rfl rfl rfl ?_ | (refine Plan.ints rfl rfl rfl rfl rfl rfl ?_; (refine Plan.int (i64r (by omega)) ?_)) | refine J.region mixed hI (by kernel_rfl) ?_)
      refine Plan.int (y := ((i + 1 : Nat) : Int)) (by omega) ?_
      repeat (fail)
      refine Plan.regroup [obj γ [ptr β, str m.s, .bool m.b, .slice x.1 m.l.length x.2, vi f], diskC β l df r, rowEv x.1 m.l.length x.2 (evsC m.l), rowB B2 c2 (rwB s (L.take (i + 1)))] (by kernel_rfl) hI (key := 1000) rfl (Ent.pickC [0, 1, 2, 3] rfl rfl) ?_
      refine Nrm.next (i + 1, B2, c2) ⟨hlt, fun y hy => ?_⟩ (by dsimp only; omega) (by repeat (first | exact Weak.nil | refine Weak.cons rfl (Sub.refl _) ?_))
      rw [htk] at hy
      rcases List.mem_append.1 hy with hy | hy
      · exact hri y hy
      · rw [List.mem_singleton.1 hy]; exact hp
    · have hno : okAll L = false := by
        cases h : okAll L with
        | false => rfl
        | true => exact absurd (okAll_iff.1 h e heM) hp
      have he : rwM m f l df r s L = ((m, f), (l, df), 1) := by unfold rwM; rw [if_neg (by omega), if_pos hno]
      rw [he]
      rw [if_neg hp, if_neg hp] at hfr
      refine Plan.call (B := 0) rfl rfl rfl (hfr) Try.func39 rfl rfl (fun _ _ => Nat.zero_le _) (by repeat (first | exact Opnds.nil | refine Opnds.cons rfl (by exact Sub.refl _) ?_)) ?_
      repeat (first | refine Plan.move rfl rfl rfl rfl ?_ | refine Plan.assign rfl rfl rfl rfl ?_ | refine Plan.extract rfl rfl rfl rfl rfl ?_ | (refine Plan.ints rfl rfl rfl rfl rfl rfl ?_; (skip)) | refine J.seq (J.region mixed hI (by kernel_rfl) ?_) | refine J.seq (J.seq (J.region mixed hI (by kernel_rfl) ?_)) | refine J.condT rfl ?_)
      refine J.unframeC (key := 1000) hG' rfl ?_
      exact J.ret (Nrm.retC1 (key := 1000) () rfl rfl rfl trivial (Sub.refl _) ((Ent.pickC (H' := [obj γ [ptr β, str m.s, .bool m.b, .slice x.1 m.l.length x.2, vi f], rowEv x.1 m.l.length x.2 (evsC m.l), diskC β l df r, frozenC w1 G]) [0, 2, 1, 5] rfl rfl).trans log_closeL))
  · have hie : i = L.length := by omega
    subst hie
    rw [List.take_length] at hri hbl
    have hyes : okAll L = true := okAll_iff.2 hri
    refine J.exit ?_
    rw [rwE, List.take_length]
    have hre := disk_Replace β l df r (rwB s L) hr (by omega)
    repeat (first | refine Plan.move rfl rfl rfl rfl ?_ | refine Plan.nilOk rfl rfl rfl rfl ?_ | refine Plan.fieldC rfl rfl rfl rfl (by first | exact Try.underlying74 | exact Try.underlying55) rfl (by kernel_rfl) (by exact (rfl : _ = 0)) ?_ | refine Plan.loadC (key := 1000) (q := 0) rfl rfl rfl rfl rfl rfl (obj_reads1 rfl) (by first | exact Try.underlying3 | exact Try.underlying23) (by rfl) (by decide) ?_ | refine J.seq (J.seq (J.region mixed hI (by kernel_rfl) ?_)))
    refine Plan.seeC (t := 57) (key := 1000) (q := 3) (by kernel_rfl) hI rfl rfl rfl (fun w F h => row_rowH h) ?_
    by_cases hfit : (rwB s L).length ≤ r
    · have he : rwM m f l df r s L = ((⟨s, true, L⟩, L.length), (rwB s L, (rwB s L).length), 0) := by unfold rwM; rw [if_neg (by omega), if_neg (by rw [hyes]; decide), if_pos hfit]
      rw [he]
      rw [if_pos hfit] at hre
      simp only [if_pos hfit] at hre
      refine Plan.callC (key := 1000) (q := 1) rfl rfl rfl (hre) Try.func11 rfl rfl (by intro _ e; cases e; decide) (by repeat (first | exact Opnds.nil | refine Opnds.cons rfl (by exact Sub.refl _) ?_)) rfl hA rfl ?_
      intro _ _
      repeat (first | refine Plan.move rfl rfl rfl rfl ?_ | refine Plan.assign rfl rfl rfl rfl ?_ | (refine Plan.ints rfl rfl rfl rfl rfl rfl ?_; (skip)) | refine Plan.nilOk rfl rfl rfl rfl ?_ | refine Plan.fieldC rfl rfl rfl rfl (by first | exact Try.underlying74 | exact Try.underlying55) rfl (by kernel_rfl) (by exact (rfl : _ = 1)) ?_ | refine J.seq (J.region mixed hI (by kernel_rfl) ?_) | refine J.condF rfl ?_ | refine J.skip ?_)
      refine Plan.storeC (key := 1000) (q := 0) rfl rfl rfl rfl rfl rfl (by simp [Value.cells, Value.oneCell', str]) (by kernel_rfl) rfl hA rfl (obj_pat1 (Nat.le_of_ble_eq_true rfl)) ?_
      repeat (first | refine Plan.nilOk rfl rfl rfl rfl ?_ | refine Plan.fieldC rfl rfl rfl rfl (by first | exact Try.underlying74 | exact Try.underlying55) rfl (by kernel_rfl) (by exact (rfl : _ = 2)) ?_)
      refine Plan.storeC (key := 1000) (q := 0) rfl rfl rfl rfl rfl rfl (by simp [Value.cells, Value.oneCell', str]) (by kernel_rfl) rfl hA rfl (obj_pat1 (Nat.le_of_ble_eq_true rfl)) ?_
      repeat (first | refine Plan.move rfl rfl rfl rfl ?_ | refine J.seq (J.region mixed hI (by kernel_rfl) ?_))
      refine Plan.callO (key := 1000) rfl rfl rfl (evs_Clone L (by omega)) (fun _ => rfl) Try.func37 rfl rfl (by intro _ e; cases e; decide) (Opnds.cons rfl hsub Opnds.nil) rfl hA fun B2 m2 c2 hm2 => ?_
      obtain rfl : m2 = L.length := by rw [evs_len] at hm2; omega
      repeat (first | refine Plan.nilOk rfl rfl rfl rfl ?_ | refine Plan.fieldC rfl rfl rfl rfl (by first | exact Try.underlying74 | exact Try.underlying55) rfl (by kernel_rfl) (by exact (rfl : _ = 3)) ?_)
      refine Plan.storeC (key := 1000) (q := 0) rfl rfl rfl rfl rfl rfl (by simp [Value.cells, Value.oneCell', str]) (by kernel_rfl) rfl hA rfl (obj_pat1 (Nat.le_of_ble_eq_true rfl)) ?_
      repeat (first | refine Plan.move rfl rfl rfl rfl ?_ | refine J.seq (J.region mixed hI (by kernel_rfl) ?_))
      refine Plan.lenRow (m := L.length) rfl rfl rfl rfl hsub Try.underlying35 (by rw [evs_len]) (by decide) ?_
      repeat (first | refine Plan.nilOk rfl rfl rfl rfl ?_ | refine Plan.fieldC rfl rfl rfl rfl (by first | exact Try.underlying74 | exact Try.underlying55) rfl (by kernel_rfl) (by exact (rfl : _ = 4)) ?_)
      refine Plan.storeC (key := 1000) (q := 0) rfl rfl rfl rfl rfl rfl (by simp [Value.cells, Value.oneCell', str]) (by kernel_rfl) rfl hA rfl (obj_pat1 (Nat.le_of_ble_eq_true rfl)) ?_
      repeat (first | refine Plan.assign rfl rfl rfl rfl ?_ | refine J.seq (J.region mixed hI (by kernel_rfl) ?_))
      refine J.unframeC (key := 1000) hG' rfl ?_
      exact J.ret (Nrm.retC1 (key := 1000) () rfl rfl rfl trivial (Sub.refl _) ((Ent.pickC (H' := [obj γ [ptr β, str s, .bool true, .slice B2 L.length c2, vi L.length], rowEv B2 L.length c2 (evsC L), diskC β (rwB s L) (rwB s L).length r, frozenC w1 G]) [0, 4, 1, 5] rfl rfl).trans (log_closeL (m := ⟨s, true, L⟩))))
    · have he : rwM m f l df r s L = ((m, f), (l, df), 9) := by unfold rwM; rw [if_neg (by omega), if_neg (by rw [hyes]; decide), if_neg hfit]
      rw [he]
      rw [if_neg hfit] at hre
      simp only [if_neg hfit] at hre
      refine Plan.callC (key := 1000) (q := 1) rfl rfl rfl (hre) Try.func11 rfl rfl (by intro _ e; cases e; decide) (by repeat (first | exact Opnds.nil | refine Opnds.cons rfl (by exact Sub.refl _) ?_)) rfl hA rfl ?_
      intro _ _
      repeat (first | refine Plan.move rfl rfl rfl rfl ?_ | refine Plan.assign rfl rfl rfl rfl ?_ | (refine Plan.ints rfl rfl rfl rfl rfl rfl ?_; (skip)) | refine J.seq (J.region mixed hI (by kernel_rfl) ?_) | refine J.condT rfl ?_)
      refine J.unframeC (key := 1000) hG' rfl ?_
      exact J.ret (Nrm.retC1 (key := 1000) () rfl rfl rfl trivial (Sub.refl _) ((Ent.pickC (H' := [obj γ [ptr β, str m.s, .bool m.b, .slice x.1 m.l.length x.2, vi f], rowEv x.1 m.l.length x.2 (evsC m.l), diskC β l df r, frozenC w1 G]) [0, 2, 1, 4] rfl rfl).trans log_closeL))
end Go.Proofs.Ytepgphflnelpoaa
end

section
set_option linter.unusedSimpArgs false
set_option linter.unusedVariables false
set_option maxRecDepth 20000
namespace Go.Free
open Go.RowKit
inductive Kn where
  | flat (k : Kd)
  | rows (l : List Kd)
def Kn.ok (w : World) : Kn → Value → Prop
  | .flat k, v => k.ok v
  | .rows l, v => ∃ A len cap, ∃ ls : List (List Value), v = .slice A len cap ∧ ls.length = len ∧ len ≤ 9223372036854775807 ∧ (∀ c ∈ ls, CellsOk l c) ∧ rowH l.length ls.flatten w v
def CellsIn (w : World) : List Kn → List Value → Prop
  | [], cs => cs = []
  | k :: r, cs => ∃ v r', cs = v :: r' ∧ k.ok w v ∧ CellsIn w r r'
theorem CellsIn.append {w : World} : ∀ {k1 k2 : List Kn} {c1 c2 : List Value}, CellsIn w k1 c1 → CellsIn w k2 c2 → CellsIn w (k1 ++ k2) (c1 ++ c2)
  | [], _, _, _, h1, h2 => by simp only [CellsIn] at h1; subst h1; exact h2
  | k :: r, k2, _, c2, ⟨v, r', h1, h3, h4⟩, h2 => by subst h1; exact ⟨v, r' ++ c2, rfl, h3, CellsIn.append h4 h2⟩
theorem CellsIn.length {w : World} : ∀ {k : List Kn} {c : List Value}, CellsIn w k c → c.length = k.length
  | [], _, h => by simp only [CellsIn] at h; subst h; rfl
  | k :: r, _, ⟨v, r', h1, _, h4⟩ => by subst h1; simp [CellsIn.length h4]
theorem CellsIn.ofOk {w : World} : ∀ {k : List Kd} {c : List Value}, CellsOk k c → CellsIn w (k.map .flat) c
  | [], _, h => h
  | _ :: r, _, ⟨v, r', h1, h2, h4⟩ => ⟨v, r', h1, h2, CellsIn.ofOk (k := r) h4⟩
theorem CellsIn.flats {w : World} : ∀ {k : List Kd} {r : List Kn} {c : List Value}, CellsIn w (k.map .flat ++ r) c → ∃ c1 c2, c = c1 ++ c2 ∧ CellsOk k c1 ∧ CellsIn w r c2
  | [], _, c, h => ⟨[], c, rfl, rfl, h⟩
  | _ :: k, r, _, ⟨v, r', h1, h2, h4⟩ => by
    obtain ⟨c1, c2, rfl, h5, h6⟩ := CellsIn.flats (k := k) h4
    exact ⟨v :: c1, c2, h1, ⟨v, c1, rfl, h2, h5⟩, h6⟩
/-- What a field of type t is. -/
def deepF (P : Program) (n : Nat) (t : TypeId) : Option (List Kn) :=
  match flatT P n t with
  | some l => some (l.map .flat)
  | none => match P.underlying t with
    | some (.slice e) => match flatT P n e with
      | some l => if P.cellsOf e = l.length then some [.rows l] else none
      | none => none
    | _ => none
def deepFs (P : Program) (g : TypeId → Option (List Kn)) : List Field → Nat → Option (List Kn)
  | [], _ => some []
  | f :: fs, acc =>
    match g f.type with
    | none => none
    | some a => if f.offset = acc ∧ a.length = P.cellsOf f.type then (deepFs P g fs (acc + a.length)).map (a ++ ·) else none
def deepT (P : Program) (n : Nat) (t : TypeId) : Option (List Kn) :=
  match P.underlying t with
  | some (.struct fs) => match deepFs P (deepF P n) fs.toList 0 with | some l => if l.length = P.cellsOf t then some l else none | none => none
  | _ => none
section
variable {H : Type} {enc : TypeId × Value → H} {P : Program} {w : World} {base : Nat} {spare : Nat → Bool} {held : Bool}
theorem deepFs_ok {g : TypeId → Option (List Kn)} {m : Nat} {cs : List Value} (hg : ∀ t l cs x, g t = some l → DataW.trod enc P w base spare held m t cs = some x → CellsIn w l cs) :
    ∀ (fs : List Field) (acc : Nat) (l : List Kn), deepFs P g fs acc = some l → acc + l.length ≤ cs.length → (∀ f ∈ fs, ∃ x, DataW.trod enc P w base spare held m f.type ((cs.drop f.offset).take (P.cellsOf f.type)) = some x) →
      CellsIn w l ((cs.drop acc).take l.length)
  | [], acc, l, h, _, _ => by simp only [deepFs, Option.some.injEq] at h; subst h; simp [CellsIn]
  | f :: fs, acc, l, h, hl, hf => by
    simp only [deepFs] at h
    cases hga : g f.type with
    | none => rw [hga] at h; cases h
    | some a =>
      rw [hga] at h
      simp only at h
      split at h
      · rename_i hc
        cases hr : deepFs P g fs (acc + a.length) with
        | none => rw [hr] at h; cases h
        | some b =>
          rw [hr] at h
          simp only [Option.map_some, Option.some.injEq] at h
          subst h
          obtain ⟨x, hx⟩ := hf f List.mem_cons_self
          have h1 := hg _ _ _ _ hga hx
          rw [hc.1, ← hc.2] at h1
          rw [List.length_append] at hl ⊢
          have h2 := deepFs_ok hg fs _ b hr (by omega) (fun f' hf' => hf f' (List.mem_cons_of_mem _ hf'))
          rw [List.take_add, List.drop_drop]
          exact h1.append h2
      · cases h
theorem any_row {t e : TypeId} {len cap sz : Nat} {A : Option Addr} {d : DataW H} {ps : List MemPlace} {Ok : List Value → Prop} (ht : P.underlying t = some (.slice e)) (hsz : P.cellsOf e = sz) (hlen : ∀ c, Ok c → c.length = sz)
    (hok : ∀ m cs x, DataW.trod enc P w base spare held m e cs = some x → Ok cs)
    (h : DataW.Trod enc P w base spare held t (.slice A len cap) d ps) : ∃ ls : List (List Value), ls.length = len ∧ len ≤ 9223372036854775807 ∧ (∀ c ∈ ls, Ok c) ∧ rowH sz ls.flatten w (.slice A len cap) := by
  obtain ⟨fuel, hf⟩ := h
  have hmm : maxLen = 9223372036854775807 := rfl
  rcases DataW.trod_slice ht hf with ⟨hcs, _⟩ | ⟨x, ln, cp, elems, rest, m, _, hcs, _, hb, h1, h2, h3, h4, _, _⟩
  · simp [Value.cells] at hcs
    obtain ⟨rfl, rfl, rfl⟩ := hcs
    exact ⟨[], rfl, by omega, by simp, none, 0, 0, rfl, by omega, by omega, by simp, fun _ => rfl, fun j u hu => by simp at hu⟩
  · simp [Value.cells] at hcs
    obtain ⟨rfl, rfl, rfl⟩ := hcs
    have each : ∀ i, i < len → ∃ c, Ok c ∧ ∀ j u, c[j]? = some u → w.cell? (x.add (i * sz + j)) = some u := fun i hi => by
      have := h4 i hi
      rw [List.getElem?_eq_getElem (by omega), Option.bind_eq_some_iff, hsz] at this
      obtain ⟨c, hc, hc2⟩ := this
      obtain ⟨_, hcl, hcc⟩ := World.cells?_some hc
      refine ⟨c, hok m _ _ hc2, fun j u hu => ?_⟩
      have hj : j < c.length := (List.getElem?_eq_some_iff.1 hu).1
      have := hcc j (by omega)
      rw [hu] at this
      rw [← this]
      congr 1
      unfold Addr.add
      by_cases e1 : i * sz = 0 <;> by_cases e2 : j = 0 <;> simp [e1, e2, Nat.add_assoc]
      all_goals first | omega | skip
    have build : ∀ k, k ≤ len → ∃ ls : List (List Value), ls.length = k ∧ (∀ c ∈ ls, Ok c) ∧ ∀ j u, ls.flatten[j]? = some u → w.cell? (x.add j) = some u := by
      intro k
      induction k with
      | zero => intro _; exact ⟨[], rfl, by simp, fun j u hu => by simp at hu⟩
      | succ k ih =>
        intro hk
        obtain ⟨ls, hls, hok, hc⟩ := ih (by omega)
        obtain ⟨c, hck, hcc⟩ := each k (by omega)
        have hfl : ls.flatten.length = k * sz := by
          rw [← hls]
          clear hls hc
          induction ls with
          | nil => simp
          | cons a r ihr => rw [List.flatten_cons, List.length_append, hlen _ (hok a List.mem_cons_self), ihr (fun c hc => hok c (List.mem_cons_of_mem _ hc)), List.length_cons, Nat.add_mul]; omega
        refine ⟨ls ++ [c], by simp [hls], fun c' hc' => by rcases List.mem_append.1 hc' with h | h; exact hok c' h; rw [List.mem_singleton.1 h]; exact hck, fun j u hu => ?_⟩
        rw [List.flatten_append] at hu
        simp only [List.flatten_cons, List.flatten_nil, List.append_nil] at hu
        by_cases hj : j < ls.flatten.length
        · rw [List.getElem?_append_left hj] at hu; exact hc j u hu
        · rw [List.getElem?_append_right (by omega)] at hu
          have := hcc _ u hu
          rw [show k * sz + (j - ls.flatten.length) = j by omega] at this
          exact this
    obtain ⟨ls, hls, hok, hc⟩ := build len (Nat.le_refl _)
    refine ⟨ls, hls, by omega, hok, some x, len, cap, rfl, h1, by omega, ?_, (fun h => by cases h), fun j u hu => ⟨x, rfl, hc j u hu⟩⟩
    rw [← hls]
    clear hls hc
    induction ls with
    | nil => simp
    | cons a r ihr => rw [List.flatten_cons, List.length_append, hlen _ (hok a List.mem_cons_self), ihr (fun c hc => hok c (List.mem_cons_of_mem _ hc)), List.length_cons, Nat.add_mul]; omega
theorem deepF_ok {n m : Nat} {t : TypeId} {l : List Kn} {cs : List Value} {x : DataW H × List MemPlace} (h : deepF P n t = some l) (hx : DataW.trod enc P w base spare held m t cs = some x) : CellsIn w l cs := by
  unfold deepF at h
  split at h
  · rename_i l' hl'
    cases h
    exact CellsIn.ofOk (flatT_ok n t l' m cs x hl' hx)
  · split at h
    · rename_i e hu
      split at h
      · rename_i l' hl'
        split at h
        · rename_i hsz
          cases h
          have hcs : ∃ A len cap, cs = [.slice A len cap] := by
            rcases DataW.trod_slice hu hx with ⟨rfl, _⟩ | ⟨a, ln, cp, _, _, _, _, rfl, _⟩
            · exact ⟨_, _, _, rfl⟩
            · exact ⟨_, _, _, rfl⟩
          obtain ⟨A, len, cap, rfl⟩ := hcs
          have hT : DataW.Trod enc P w base spare held t (.slice A len cap) x.1 x.2 := ⟨m, hx⟩
          obtain ⟨ls, h1, h2, h3, h4⟩ := any_row (Ok := CellsOk l') hu hsz (fun c hc => hc.length) (fun m cs x hx => flatT_ok n e l' m cs x hl' hx) hT
          exact ⟨_, [], rfl, ⟨A, len, cap, ls, rfl, h1, h2, h3, h4⟩, rfl⟩
        · cases h
      · cases h
    · cases h
theorem deepT_ok {n m : Nat} {t : TypeId} {l : List Kn} {cs : List Value} {x : DataW H × List MemPlace} (h : deepT P n t = some l) (hx : DataW.trod enc P w base spare held m t cs = some x) : CellsIn w l cs := by
  unfold deepT at h
  cases hu : P.underlying t with
  | none => rw [hu] at h; cases h
  | some d =>
    rw [hu] at h
    cases d <;> simp only [reduceCtorEq] at h
    case struct fs =>
      split at h
      · rename_i l' hl'
        split at h
        · rename_i hlen
          cases h
          obtain ⟨xs, k, rfl, _, hcl, hxl, hf⟩ := DataW.trod_struct hu hx
          have := deepFs_ok (cs := cs) (fun t l cs x h1 h2 => deepF_ok h1 h2) fs.toList 0 l hl' (by omega) (fun f hfm => by
            obtain ⟨i, hi⟩ := List.getElem?_of_mem hfm
            have hi' : i < fs.toList.length := (List.getElem?_eq_some_iff.1 hi).1
            have hfi := hf i f (by simpa using hi)
            have hix : i < xs.length := by simp at hi'; omega
            exact ⟨xs[i], by rw [hfi, List.getElem?_eq_getElem hix]⟩)
          rw [List.drop_zero, List.take_of_length_le (by omega)] at this
          exact this
        · cases h
      · cases h
theorem deep_row {t e : TypeId} {n len cap : Nat} {l : List Kn} {A : Option Addr} {d : DataW H} {ps : List MemPlace} (ht : P.underlying t = some (.slice e)) (hl : deepT P n e = some l) (hsz : P.cellsOf e = l.length)
    (h : DataW.Trod enc P w base spare held t (.slice A len cap) d ps) : ∃ ls : List (List Value), ls.length = len ∧ len ≤ 9223372036854775807 ∧ (∀ c ∈ ls, CellsIn w l c) ∧ rowH l.length ls.flatten w (.slice A len cap) :=
  any_row ht hsz (fun c hc => hc.length) (fun m cs x hx => deepT_ok hl hx) h
end
end Go.Free
end

section
set_option linter.unusedSimpArgs false
set_option linter.unusedVariables false
set_option maxRecDepth 20000
namespace Go.Proofs.Ytepgphflnelpoaa
open Go.Free Go.RowKit Go.Proofs
set_option maxHeartbeats 4000000

structure OpV8 where
  kind : Int
  n : Int
  at_ : Int
  turn : Int
  e : EvV
  s : List UInt8
  v : Value
  L : List EvV
def OpV8.enc (o : OpV8) : List Value := [vi o.kind, vi o.n, vi o.at_, vi o.turn] ++ o.e.enc ++ [str o.s, o.v]
def OpV8.okV (o : OpV8) : Prop := in64 o.kind ∧ in64 o.n ∧ in64 o.at_ ∧ in64 o.turn ∧ o.e.okV ∧ o.s.length ≤ 9223372036854775807 ∧ o.L.length ≤ 9223372036854775807 ∧ (∀ x ∈ o.L, x.okV) ∧ ∃ A c, o.v = .slice A o.L.length c
def op80 : OpV8 := ⟨0, 0, 0, 0, ev0, [], .slice none 0 0, []⟩
theorem enc8 (o : OpV8) : o.enc.length = 32 := rfl
theorem elt8 : Elt Try.prog 53 51 (.agg op80.enc.toArray) 32 304 := Elt.mk' Try.underlying53 (by kernel_rfl) rfl (by decide) (by decide)
/-- The script, and the events of its calls. -/
def opsH (sc : List OpV8) (w : World) (x : Value) : Prop := rowH 32 (sc.flatMap OpV8.enc) w x ∧ ∀ o ∈ sc, rowH 26 (evsC o.L) w o.v
def ops8F (sc : List OpV8) : Fa := .is ⟨opsH sc, fun _ _ _ hb h => ⟨rowH_mono hb h.1, fun o ho => rowH_mono hb (h.2 o ho)⟩⟩
def kns8 : List Kn := ([Kd.int .i64, Kd.int .i64, Kd.int .i64, Kd.int .i64] ++ kdsEvent ++ [Kd.str]).map Kn.flat ++ [Kn.rows kdsEvent]
theorem ok_split : ∀ {k1 k2 : List Kd} {c : List Value}, CellsOk (k1 ++ k2) c → ∃ c1 c2, c = c1 ++ c2 ∧ CellsOk k1 c1 ∧ CellsOk k2 c2
  | [], _, c, h => ⟨[], c, rfl, rfl, h⟩
  | _ :: k1, _, _, ⟨v, r', h1, h2, h4⟩ => by
    obtain ⟨c1, c2, rfl, h5, h6⟩ := ok_split (k1 := k1) h4
    exact ⟨v :: c1, c2, h1, ⟨v, c1, rfl, h2, h5⟩, h6⟩
theorem op8_of {w : World} {c : List Value} (h : CellsIn w kns8 c) : ∃ o : OpV8, c = o.enc ∧ o.okV ∧ rowH 26 (evsC o.L) w o.v := by
  obtain ⟨c1, c2, rfl, h1, h2⟩ := CellsIn.flats h
  obtain ⟨c3, c4, rfl, h3, h4⟩ := ok_split h1
  obtain ⟨c5, c6, rfl, h5, h6⟩ := ok_split h3
  obtain ⟨_, _, rfl, ⟨a1, rfl, k1⟩, _, _, rfl, ⟨a2, rfl, k2⟩, _, _, rfl, ⟨a3, rfl, k3⟩, _, _, rfl, ⟨a4, rfl, k4⟩, rfl⟩ := h5
  obtain ⟨e, rfl, he⟩ := ev_of h6
  obtain ⟨_, _, rfl, ⟨s, rfl, hs⟩, rfl⟩ := h4
  obtain ⟨_, _, rfl, ⟨A, len, cap, ls, rfl, l1, l2, l3, l4⟩, rfl⟩ := h2
  obtain ⟨L, g1, g2, g3⟩ := evs_of ls l3
  refine ⟨⟨a1, a2, a3, a4, e, s.data.toList, .slice A len cap, L⟩, by simp [OpV8.enc, str], ⟨in64_wf.1 k1, in64_wf.1 k2, in64_wf.1 k3, in64_wf.1 k4, he, str_len hs, ?_, g3, A, cap, ?_⟩, ?_⟩
  · dsimp only; omega
  · dsimp only; rw [g1, l1]
  · dsimp only
    rw [show evsC L = ls.flatten from g2.symm]
    exact l4
theorem ops8_of {w : World} : ∀ (ls : List (List Value)), (∀ c ∈ ls, CellsIn w kns8 c) → ∃ sc : List OpV8, sc.length = ls.length ∧ ls.flatten = sc.flatMap OpV8.enc ∧ ∀ o ∈ sc, o.okV ∧ rowH 26 (evsC o.L) w o.v
  | [], _ => ⟨[], rfl, rfl, by simp⟩
  | c :: r, h => by
    obtain ⟨o, rfl, ho⟩ := op8_of (h c List.mem_cons_self)
    obtain ⟨sc, h1, h2, h3⟩ := ops8_of r (fun c hc => h c (List.mem_cons_of_mem _ hc))
    exact ⟨o :: sc, by simp [h1], by simp [h2], fun x hx => by rcases List.mem_cons.1 hx with rfl | hx; exact ho; exact h3 x hx⟩
def few8 (sc : List OpV8) : Bool := decide (sc.length ≤ 100) && sc.all fun o => decide (o.s.length ≤ 70000 ∧ o.L.length ≤ 100)
theorem few8_iff {sc : List OpV8} : few8 sc = true ↔ sc.length ≤ 100 ∧ ∀ o ∈ sc, o.s.length ≤ 70000 ∧ o.L.length ≤ 100 := by simp [few8]
theorem ops8_len (sc : List OpV8) : (sc.flatMap OpV8.enc).length = sc.length * 32 := flatMap_length _ 32 enc8 sc
/-- In every world above w0 the slot's value is the script. -/
theorem sub8 {w0 : World} {u : Value} {sc : List OpV8} (h : opsH sc w0 u) : Sub (fun w => Below w0.heap.size w0 w) (.ex u) (row 32 (sc.flatMap OpV8.enc)) := fun w y hw hy => by
  simp only [Fa.den] at hy
  subst hy
  exact rowH_mono hw h.1
theorem subL {w0 : World} {u : Value} {L : List EvV} (h : rowH 26 (evsC L) w0 u) : Sub (fun w => Below w0.heap.size w0 w) (.ex u) (row 26 (evsC L)) := fun w y hw hy => by
  simp only [Fa.den] at hy
  subst hy
  exact rowH_mono hw h
theorem few8_fn (sc : List OpV8) (hl : sc.length ≤ 9223372036854775807) (hok : ∀ o ∈ sc, o.okV) : Spc Try.prog 19 [ops8F sc] fun _ => .ex (.bool (few8 sc)) := by
  refine Spc.intro Try.func19 rfl (Nat.le_of_ble_eq_true rfl) fun w0 => ?_
  have hI := hIb w0
  refine J.nameOld (t := 0) rfl fun u hu => ?_
  have hs8 := sub8 hu
  have hL8 := hu.2
  repeat (first | refine Plan.move rfl rfl rfl rfl ?_ | refine Plan.assign rfl rfl rfl rfl ?_ | refine J.seq (J.region mixed hI (by kernel_rfl) ?_) | refine J.seq (J.seq (J.region mixed hI (by kernel_rfl) ?_)))
  refine Plan.lenRow (m := sc.length) rfl rfl rfl rfl hs8 Try.underlying53 (by rw [ops8_len]) (by decide) ?_
  repeat ((refine Plan.ints rfl rfl rfl rfl rfl rfl ?_; (skip)))
  refine J.condD rfl (fun h => ?_) (fun h => ?_)
  · have hs : few8 sc = false := by unfold few8; rw [decide_eq_false (by omega)]; rfl
    rw [hs]
    repeat (first | refine Plan.assign rfl rfl rfl rfl ?_ | refine J.seq (J.region mixed hI (by kernel_rfl) ?_))
    exact J.ret (Nrm.ret1 rfl (fun _ h => h) rfl fun B _ => Sub.refl _)
  repeat (first | refine Plan.move rfl rfl rfl rfl ?_ | refine J.seq (J.seq (J.region mixed hI (by kernel_rfl) ?_)) | refine J.skip ?_)
  refine Plan.lenRow (m := sc.length) rfl rfl rfl rfl hs8 Try.underlying53 (by rw [ops8_len]) (by decide) ?_
  repeat (refine Plan.move rfl rfl rfl rfl ?_)
  refine J.block (J.loop (fun i : Nat => [(0, .ex u), (8, .ex (vi sc.length)), (9, .ex (vi i))]) (fun i => i ≤ sc.length ∧ ∀ o ∈ sc.take i, o.s.length ≤ 70000 ∧ o.L.length ≤ 100) (fun i => sc.length - i) 0 ⟨Nat.zero_le _, fun o ho => by simp at ho⟩ ?_ ?_)
  · repeat (first | exact Weak.nil | refine Weak.cons rfl (Sub.refl _) ?_)
  rintro i ⟨hi, hall⟩
  repeat (first | (refine Plan.ints rfl rfl rfl rfl rfl rfl ?_; (skip)) | refine J.seq (J.region mixed hI (by kernel_rfl) ?_))
  refine J.seq (J.condD rfl (fun hlt => ?_) (fun hlt => ?_))
  · have hlt' : i < sc.length := by omega
    obtain ⟨o, hoe⟩ : ∃ o, o = sc[i] := ⟨_, rfl⟩
    have hget : sc.getD i op80 = o := by simp [hoe, List.getD_eq_getElem?_getD, List.getElem?_eq_getElem hlt']
    have hoM : o ∈ sc := hoe ▸ List.getElem_mem hlt'
    have hlo := hL8 o hoM
    have hov := hok o hoM
    obtain ⟨A, cp, hv⟩ := hov.2.2.2.2.2.2.2.2
    have hno : ¬ (o.s.length ≤ 70000 ∧ o.L.length ≤ 100) → few8 sc = false := fun hn => by
      cases h : few8 sc with
      | false => rfl
      | true => exact absurd ((few8_iff.1 h).2 o hoM) hn
    repeat (refine J.skip ?_)
    refine J.seq (J.block ?_)
    repeat (first | refine Plan.move rfl rfl rfl rfl ?_ | refine Plan.assign rfl rfl rfl rfl ?_ | refine J.seq (J.region mixed hI (by kernel_rfl) ?_))
    refine Plan.indexAddr OpV8.enc 32 sc op80 rfl rfl rfl rfl hs8 rfl elt8 enc8 (by omega) (by omega) ?_
    rw [Int.toNat_natCast, hget]
    refine Plan.fieldPtr (us := [str o.s]) rfl rfl rfl rfl (Sub.refl _) Try.underlying51 rfl (by kernel_rfl) rfl ?_
    refine Plan.load rfl rfl rfl rfl (Sub.refl _) Try.underlying9 rfl ?_
    repeat (first | refine Plan.move rfl rfl rfl rfl ?_ | refine Plan.lenStr rfl rfl rfl rfl Try.underlying9 ?_ | (refine Plan.ints rfl rfl rfl rfl rfl rfl ?_; (skip)))
    refine Plan.splitD (fun h2 => ?_) (fun h2 => ?_)
    · rw [hno (by omega)]
      repeat (first | refine Plan.assign rfl rfl rfl rfl ?_ | refine Plan.skip rfl rfl ?_ | refine Plan.pick rfl rfl rfl rfl rfl ?_ | refine J.seq (J.region mixed hI (by kernel_rfl) ?_) | refine J.condT rfl ?_)
      exact J.ret (Nrm.ret1 rfl (fun _ h => h) rfl fun B _ => Sub.refl _)
    repeat (refine Plan.move rfl rfl rfl rfl ?_)
    refine Plan.indexAddr OpV8.enc 32 sc op80 rfl rfl rfl rfl hs8 rfl elt8 enc8 (by omega) (by omega) ?_
    rw [Int.toNat_natCast, hget]
    refine Plan.fieldPtr (us := [o.v]) rfl rfl rfl rfl (Sub.refl _) Try.underlying51 rfl (by kernel_rfl) rfl ?_
    refine Plan.load rfl rfl rfl rfl (Sub.refl _) Try.underlying35 rfl ?_
    refine Plan.lenRow (m := o.L.length) rfl rfl rfl rfl (subL hlo) Try.underlying35 (by rw [evs_len]) (by decide) ?_
    repeat (first | refine Plan.pick rfl rfl rfl rfl rfl ?_ | (refine Plan.ints rfl rfl rfl rfl rfl rfl ?_; (skip)))
    refine J.condD rfl (fun h3 => ?_) (fun h3 => ?_)
    · rw [hno (by omega)]
      repeat (first | refine Plan.assign rfl rfl rfl rfl ?_ | refine J.seq (J.region mixed hI (by kernel_rfl) ?_))
      exact J.ret (Nrm.ret1 rfl (fun _ h => h) rfl fun B _ => Sub.refl _)
    · repeat (first | refine Plan.move rfl rfl rfl rfl ?_ | (refine Plan.ints rfl rfl rfl rfl rfl rfl ?_; (refine Plan.int (i64r (by omega)) ?_)) | refine J.region mixed hI (by kernel_rfl) ?_ | refine J.skip ?_)
      refine Plan.int (y := ((i + 1 : Nat) : Int)) (by omega) ?_
      refine Nrm.next (i + 1) ⟨hlt', fun y hy => ?_⟩ (by omega) (by repeat (first | exact Weak.nil | refine Weak.cons rfl (Sub.refl _) ?_))
      rw [List.take_succ_eq_append_getElem hlt'] at hy
      rcases List.mem_append.1 hy with hy | hy
      · exact hall y hy
      · rw [List.mem_singleton.1 hy, ← hoe]; omega
  · have hie : i = sc.length := by omega
    subst hie
    rw [List.take_length] at hall
    have hs : few8 sc = true := few8_iff.2 ⟨by omega, hall⟩
    rw [hs]
    refine J.exit ?_
    repeat (first | refine Plan.assign rfl rfl rfl rfl ?_ | refine J.seq (J.region mixed hI (by kernel_rfl) ?_))
    exact J.ret (Nrm.ret1 rfl (fun _ h => h) rfl fun B _ => Sub.refl _)
end Go.Proofs.Ytepgphflnelpoaa
end

section
set_option linter.unusedSimpArgs false
set_option linter.unusedVariables false
set_option maxRecDepth 20000
namespace Go.Proofs.Ytepgphflnelpoaa
open Go.Free Go.RowKit Go.Proofs
set_option maxHeartbeats 2000000

/-- The first i of 16 bits of m turned, from a place on. -/
def flips (l : List UInt8) (p m : Nat) : Nat → List UInt8
  | 0 => l
  | i + 1 => if m / 2 ^ (15 - i) % 2 = 1 then flipAt (flips l p m i) (p + i) else flips l p m i
theorem flips_length (l : List UInt8) (p m : Nat) : ∀ i, (flips l p m i).length = l.length
  | 0 => rfl
  | i + 1 => by unfold flips; split <;> simp [flip_length, flips_length l p m i]
def keptOf (n : Nat) (keep : Int) : Nat := (max 0 (min keep n)).toNat
def tailOf (t : List UInt8) (at_ turn : Int) : List UInt8 :=
  if 2 ≤ t.length then flips t (at_ % ((8 * t.length : Nat) - 15)).toNat (turn % 65536).toNat 16 else t
def crashOf (l : List UInt8) (f : Nat) (keep at_ turn : Int) : List UInt8 := l.take f ++ tailOf ((l.drop f).take (keptOf (l.length - f) keep)) at_ turn
theorem kept_eq (n : Nat) (keep : Int) : ((keptOf n keep : Nat) : Int) = if (if ((n : Nat) : Int) < keep then ((n : Nat) : Int) else keep) > 0 then (if ((n : Nat) : Int) < keep then ((n : Nat) : Int) else keep) else 0 := by
  unfold keptOf; split <;> split <;> omega
theorem kept_le (n : Nat) (keep : Int) : keptOf n keep ≤ n := by unfold keptOf; omega
theorem tail_length (t : List UInt8) (a b : Int) : (tailOf t a b).length = t.length := by unfold tailOf; split <;> simp [flips_length]

theorem and1i (x : Nat) (h : x < 65536) : IntKind.i64.wrap ((BitVec.ofInt IntKind.i64.bits (x : Int) &&& BitVec.ofInt IntKind.i64.bits 1).toNat : Int) = ((x % 2 : Nat) : Int) := by
  have e : (BitVec.ofInt IntKind.i64.bits (x : Int) &&& BitVec.ofInt IntKind.i64.bits 1).toNat = x % 2 := by
    show (BitVec.ofInt 64 (x : Int) &&& BitVec.ofInt 64 1).toNat = _
    rw [BitVec.toNat_and, BitVec.ofInt_natCast, BitVec.toNat_ofNat, Nat.mod_eq_of_lt (by omega)]
    exact Nat.and_one_is_mod x
  rw [e, i64r (by omega)]
theorem bit_natD (pos : Nat) : ((128 / 2 ^ (pos % 8) : Nat) : Int) = (bitAt pos).toNat := by
  have h : pos % 8 < 8 := Nat.mod_lt _ (by decide)
  have e : (bitAt pos).toNat = 128 / 2 ^ (pos % 8) := by
    unfold bitAt
    generalize pos % 8 = r at h
    have : r = 0 ∨ r = 1 ∨ r = 2 ∨ r = 3 ∨ r = 4 ∨ r = 5 ∨ r = 6 ∨ r = 7 := by omega
    rcases this with rfl | rfl | rfl | rfl | rfl | rfl | rfl | rfl <;> rfl
  rw [e]

def crashE (β g cap f kp r p m : Nat) (turn : Int) (A : Nat → Prop) (h t0 : List UInt8) (i : Nat) : Env :=
  [(0, .ex (ptr β)), (3, .ex (.int .i64 turn)), (9, .ex (.slice (some ⟨g, 0 + f * 1, none⟩) (f + kp - f) (cap - f))), (10, .ex (.int .i64 p)), (57, .ex (.int .i64 i)),
   (1000, heap A [obj β [.slice (some ⟨g, 0, none⟩) (f + kp) cap, .int .i64 f, .int .i64 r], rowC 5 1 (some ⟨g, 0, none⟩) (f + kp) cap (bs (h ++ flips t0 p m i))])]

theorem disk_Crash (β : Nat) (l : List UInt8) (f r : Nat) (keep at_ turn : Int) (hl : l.length ≤ 65536) (hf : f ≤ l.length)
    (hkeep : -9223372036854775808 ≤ keep ∧ keep ≤ 9223372036854775807) (hat : -9223372036854775808 ≤ at_ ∧ at_ ≤ 9223372036854775807) (hturn : -9223372036854775808 ≤ turn ∧ turn ≤ 9223372036854775807) :
    SpcC Try.prog 23 [.ex (ptr β), .ex (.int .i64 keep), .ex (.int .i64 at_), .ex (.int .i64 turn)] (diskC β l f r) (fun _ : Unit => True)
    (fun _ => Fa.any) (fun _ => diskC β (crashOf l f keep at_ turn) (crashOf l f keep at_ turn).length r) := by
  refine SpcC.intro Try.func23 rfl (Nat.le_of_ble_eq_true rfl) fun w0 F => ?_
  have hI := kept_below F w0
  have hA := Own.kept F w0
  refine J.exC (key := 1000) (q := 0) rfl rfl fun x => ?_
  refine J.sepC (key := 1000) (q := 0) rfl rfl ?_
  refine J.factC (key := 1000) (q := 1) rfl rfl (fun w F hh => row_fact hh) fun hfact => ?_
  obtain ⟨-, hcap, hcapM, hB⟩ := hfact
  obtain ⟨B, cap⟩ := x
  dsimp only at hcap hcapM hB
  dsimp only
  repeat (first | refine Plan.move rfl rfl rfl rfl ?_ | refine Plan.lenE rfl rfl rfl rfl Try.underlying27 ?_ | (refine Plan.ints rfl rfl rfl rfl rfl rfl ?_; (refine Plan.int (i64r (by omega)) ?_)) | refine Plan.nilOk rfl rfl rfl rfl ?_ | refine Plan.fieldC rfl rfl rfl rfl (by exact Try.underlying74) rfl (by kernel_rfl) (by first | exact (rfl : _ = 0) | exact (rfl : _ = 1)) ?_ | refine Plan.loadC (key := 1000) (q := 0) rfl rfl rfl rfl rfl rfl (obj_reads1 rfl) (by first | exact Try.underlying3 | exact Try.underlying27) (by rfl) (by decide) ?_ | refine Plan.eqlPtr rfl rfl rfl rfl (by kernel_rfl) ?_ | refine J.seq (J.region mixed hI (by kernel_rfl) ?_) | refine J.seq (J.seq (J.region mixed hI (by kernel_rfl) ?_)) | refine J.condF rfl ?_ | refine J.skip ?_)
  refine Plan.int (y := ((l.length - f : Nat) : Int)) (by omega) ?_
  refine Plan.min2 rfl rfl rfl rfl rfl ?_
  refine Plan.max2 rfl rfl rfl rfl rfl ?_
  rw [← kept_eq]
  obtain ⟨kp, hkp⟩ : ∃ kp, kp = keptOf (l.length - f) keep := ⟨_, rfl⟩
  have hkple : kp ≤ l.length - f := by rw [hkp]; exact kept_le _ _
  rw [← hkp]
  repeat (first | refine Plan.move rfl rfl rfl rfl ?_ | refine Plan.assign rfl rfl rfl rfl ?_ | (refine Plan.ints rfl rfl rfl rfl rfl rfl ?_; (refine Plan.int (i64r (by omega)) ?_)) | refine Plan.nilOk rfl rfl rfl rfl ?_ | refine Plan.fieldC rfl rfl rfl rfl (by exact Try.underlying74) rfl (by kernel_rfl) (by first | exact (rfl : _ = 0) | exact (rfl : _ = 1)) ?_ | refine Plan.loadC (key := 1000) (q := 0) rfl rfl rfl rfl rfl rfl (obj_reads1 rfl) (by first | exact Try.underlying3 | exact Try.underlying27) (by rfl) (by decide) ?_ | refine J.seq (J.region mixed hI (by kernel_rfl) ?_))
  refine Plan.int (y := ((f + kp : Nat) : Int)) (by omega) ?_
  refine Plan.sliceHi rfl rfl rfl rfl eltB rfl (by omega) ?_
  repeat (first | refine Plan.nilOk rfl rfl rfl rfl ?_ | refine Plan.fieldC rfl rfl rfl rfl (by exact Try.underlying74) rfl (by kernel_rfl) (by exact (rfl : _ = 0)) ?_)
  refine Plan.storeC (key := 1000) (q := 0) rfl rfl rfl rfl rfl rfl (by simp [Value.cells, Value.oneCell']) (by kernel_rfl) rfl hA rfl (obj_pat1 (Nat.le_of_ble_eq_true rfl)) ?_
  have hbt : List.take ((f + kp) * 1) (bs l) = bs (l.take f ++ (l.drop f).take kp) := by rw [← List.take_add, Nat.mul_one]; simp [bs, List.map_take]
  refine J.convC (key := 1000) (q := 1) rfl rfl (Ent.rowCut (m := f + kp) (by omega)) ?_
  rw [hbt]
  obtain ⟨t0, ht0⟩ : ∃ t0, t0 = (l.drop f).take kp := ⟨_, rfl⟩
  have ht0l : t0.length = kp := by rw [ht0, List.length_take, List.length_drop]; omega
  have hcr : crashOf l f keep at_ turn = l.take f ++ tailOf t0 at_ turn := by unfold crashOf; rw [← hkp, ← ht0]
  have hcrl : (crashOf l f keep at_ turn).length = f + kp := by rw [hcr, List.length_append, tail_length, ht0l, List.length_take]; omega
  have hclose : ∀ B : Option Addr, Ent (allC [obj β [.slice B (f + kp) cap, .int .i64 f, .int .i64 r], rowC 5 1 B (f + kp) cap (bs (l.take f ++ tailOf t0 at_ turn))]) (diskC β (crashOf l f keep at_ turn) f r) := by
    intro B
    have h9 := disk_close (l := crashOf l f keep at_ turn) (B := B) (cap := cap) (f := f) (r := r) (β := β)
    simp only [rowB, hcrl] at h9
    rw [hcr] at h9
    rw [hcr]
    exact h9
  rw [← ht0]
  repeat (first | refine Plan.move rfl rfl rfl rfl ?_ | refine Plan.nilOk rfl rfl rfl rfl ?_ | refine Plan.fieldC rfl rfl rfl rfl (by exact Try.underlying74) rfl (by kernel_rfl) (by first | exact (rfl : _ = 0) | exact (rfl : _ = 1)) ?_ | refine Plan.loadC (key := 1000) (q := 0) rfl rfl rfl rfl rfl rfl (obj_reads1 rfl) (by first | exact Try.underlying3 | exact Try.underlying27) (by rfl) (by decide) ?_ | refine J.seq (J.region mixed hI (by kernel_rfl) ?_))
  by_cases h2 : 2 ≤ kp
  · rcases hB with ⟨_, _, h0⟩ | ⟨g, rfl⟩
    · omega
    refine Plan.sliceLo rfl rfl rfl rfl eltB rfl (by omega) (by omega) (by omega) ?_
    repeat (first | refine Plan.move rfl rfl rfl rfl ?_ | refine Plan.assign rfl rfl rfl rfl ?_ | (refine Plan.ints rfl rfl rfl rfl rfl rfl ?_; (skip)) | refine J.seq (J.seq (J.region mixed hI (by kernel_rfl) ?_)))
    refine J.condD rfl (fun h3 => ?_) (fun h3 => ?_)
    rotate_left
    · omega
    · repeat (first | refine Plan.move rfl rfl rfl rfl ?_ | (refine Plan.ints rfl rfl rfl rfl rfl rfl ?_; (refine Plan.int (i64r (by omega)) ?_)) | refine J.seq (J.region mixed hI (by kernel_rfl) ?_))
      refine Plan.call (B := 0) rfl rfl rfl (disk_rest at_ (8 * (kp : Int) - 15) (by omega)) Try.func41 rfl rfl (fun _ _ => Nat.zero_le _) (by repeat (first | exact Opnds.nil | refine Opnds.cons rfl (by exact Sub.refl _) ?_)) ?_
      obtain ⟨p, hp⟩ : ∃ p : Nat, (p : Int) = at_ % (8 * (kp : Int) - 15) := ⟨(at_ % (8 * (kp : Int) - 15)).toNat, Int.toNat_of_nonneg (Int.emod_nonneg _ (by omega))⟩
      have hpl : p < 8 * kp - 15 := by
        have := Int.emod_lt_of_pos at_ (show (0 : Int) < 8 * (kp : Int) - 15 by omega)
        omega
      rw [← hp]
      obtain ⟨m, hm⟩ : ∃ m : Nat, (m : Int) = turn % 65536 := ⟨(turn % 65536).toNat, Int.toNat_of_nonneg (Int.emod_nonneg _ (by omega))⟩
      have hml : m < 65536 := by
        have := Int.emod_lt_of_pos turn (show (0 : Int) < 65536 by omega)
        omega
      have htail : tailOf t0 at_ turn = flips t0 p m 16 := by
        unfold tailOf
        rw [ht0l, if_pos h2, show ((8 * kp : Nat) : Int) - 15 = 8 * (kp : Int) - 15 by omega, ← hp, ← hm]
        rfl
      repeat (first | refine Plan.move rfl rfl rfl rfl ?_ | refine Plan.assign rfl rfl rfl rfl ?_ | refine J.seq (J.region mixed hI (by kernel_rfl) ?_))
      refine J.block (J.loop (crashE β g cap f kp r p m turn (fun b => F b ∨ w0.heap.size ≤ b) (l.take f) t0) (fun i => i ≤ 16) (fun i => 16 - i) 0 (Nat.zero_le _) ?_ ?_)
      · repeat (first | exact Weak.nil | refine Weak.cons rfl (Sub.refl _) ?_)
      intro i hi
      have hfl := flips_length t0 p m i
      repeat (first | (refine Plan.ints rfl rfl rfl rfl rfl rfl ?_; (skip)) | refine J.seq (J.region mixed hI (by kernel_rfl) ?_))
      refine J.seq (J.condD rfl (fun hlt => ?_) (fun hlt => ?_))
      · have hlt' : i < 16 := by omega
        repeat (refine J.skip ?_)
        refine J.seq (J.block ?_)
        repeat (first | refine Plan.move rfl rfl rfl rfl ?_ | refine Plan.assign rfl rfl rfl rfl ?_ | refine J.seq (J.region mixed hI (by kernel_rfl) ?_))
        refine Plan.call (B := 0) rfl rfl rfl (disk_rest turn 65536 (by omega)) Try.func41 rfl rfl (fun _ _ => Nat.zero_le _) (by repeat (first | exact Opnds.nil | refine Opnds.cons rfl (by exact Sub.refl _) ?_)) ?_
        rw [← hm]
        repeat (first | refine Plan.move rfl rfl rfl rfl ?_ | (refine Plan.ints rfl rfl rfl rfl rfl rfl ?_; (refine Plan.int (i64r (by omega)) ?_)))
        refine Plan.int (y := ((15 - i : Nat) : Int)) (by omega) ?_
        refine Plan.shrN rfl rfl rfl rfl rfl (by show 15 - i ≤ 64; omega) ?_
        refine Plan.ints rfl rfl rfl rfl rfl rfl ?_
        refine Plan.int (and1i _ (Nat.lt_of_le_of_lt (Nat.div_le_self _ _) hml)) ?_
        repeat ((refine Plan.ints rfl rfl rfl rfl rfl rfl ?_; (skip)))
        refine J.condE rfl (fun hbit => ?_) (fun hbit => ?_)
        · have hbit' : m / 2 ^ (15 - i) % 2 = 1 := by omega
          have hq8 : (p + i) / 8 < (flips t0 p m i).length := by omega
          have hget : (bs (l.take f ++ flips t0 p m i))[0 + f * 1 + (p + i) / 8 * 1]? = some (.int .u8 ((flips t0 p m i).getD ((p + i) / 8) 0).toNat) := by
            have hlf : (l.take f).length = f := by rw [List.length_take]; omega
            rw [show 0 + f * 1 + (p + i) / 8 * 1 = f + (p + i) / 8 by omega]
            simp only [bs, List.map_append]
            rw [List.getElem?_append_right (by rw [List.length_map, hlf]; omega), List.length_map, hlf, Nat.add_sub_cancel_left, List.getElem?_map, List.getElem?_eq_getElem hq8, List.getD_eq_getElem?_getD, List.getElem?_eq_getElem hq8]
            rfl
          refine (J.region mixed hI (by kernel_rfl) ?_)
          refine Plan.move rfl rfl rfl rfl ?_
          refine Plan.move rfl rfl rfl rfl ?_
          refine Plan.move rfl rfl rfl rfl ?_
          refine Plan.ints rfl rfl rfl rfl rfl rfl ?_
          refine Plan.int (y := ((p + i : Nat) : Int)) (by rw [i64r (by omega)]; omega) ?_
          refine Plan.ints rfl rfl rfl rfl rfl rfl ?_
          refine Plan.int (y := (((p + i) / 8 : Nat) : Int)) (quoN (y := 8) (by omega)) ?_
          refine Plan.indexC rfl rfl rfl rfl rfl eltB (by omega) rfl ?_
          refine Plan.loadC (key := 1000) (q := 1) rfl rfl rfl rfl rfl rfl (row_reads1 hget) Try.underlying5 rfl (by decide) ?_
          refine Plan.move rfl rfl rfl rfl ?_
          refine Plan.move rfl rfl rfl rfl ?_
          refine Plan.ints rfl rfl rfl rfl rfl rfl ?_
          refine Plan.int (y := ((p + i : Nat) : Int)) (by rw [i64r (by omega)]; omega) ?_
          refine Plan.ints rfl rfl rfl rfl rfl rfl ?_
          refine Plan.int (y := (((p + i) % 8 : Nat) : Int)) (remN _ 8) ?_
          refine Plan.shrN (p := 128) (q := (p + i) % 8) rfl rfl rfl rfl rfl (by show (p + i) % 8 ≤ 8; omega) ?_
          refine Plan.int (bit_natD (p + i)) ?_
          refine Plan.ints rfl rfl rfl rfl rfl rfl ?_
          refine Plan.int (u8_xor _ _) ?_
          refine Plan.indexC rfl rfl rfl rfl rfl eltB (by omega) rfl ?_
          refine Plan.storeC (key := 1000) (q := 1) rfl rfl rfl rfl rfl rfl (by simp [Value.cells, Value.oneCell']) (by kernel_rfl) rfl hA rfl (row_pat1 (List.getElem?_eq_some_iff.1 hget).1) ?_
          have hset : (bs (l.take f ++ flips t0 p m i)).set (0 + f * 1 + (p + i) / 8 * 1) (.int .u8 ((flips t0 p m i).getD ((p + i) / 8) 0 ^^^ bitAt (p + i)).toNat) = bs (l.take f ++ flips t0 p m (i + 1)) := by
            have hlf : (l.take f).length = f := by rw [List.length_take]; omega
            rw [bsSet, show 0 + f * 1 + (p + i) / 8 * 1 = f + (p + i) / 8 by omega]
            rw [List.set_append_right _ _ (by omega), hlf, Nat.add_sub_cancel_left]
            simp only [flips, if_pos hbit']
            rfl
          rw [hset]
          repeat (first | refine Plan.move rfl rfl rfl rfl ?_ | (refine Plan.ints rfl rfl rfl rfl rfl rfl ?_; (refine Plan.int (i64r (by omega)) ?_)) | refine J.region mixed hI (by kernel_rfl) ?_)
          refine Nrm.next (i + 1) hlt' (by omega) (by repeat (first | exact Weak.nil | refine Weak.cons rfl (Sub.refl _) ?_))
        · have hbit' : ¬ m / 2 ^ (15 - i) % 2 = 1 := by omega
          have hset : flips t0 p m i = flips t0 p m (i + 1) := by simp only [flips, if_neg hbit']
          refine J.convC (key := 1000) (q := 1) rfl rfl (Ent.rowEq (congrArg (fun t => bs (l.take f ++ t)) hset)) ?_
          repeat (first | refine Plan.move rfl rfl rfl rfl ?_ | (refine Plan.ints rfl rfl rfl rfl rfl rfl ?_; (refine Plan.int (i64r (by omega)) ?_)) | refine J.region mixed hI (by kernel_rfl) ?_ | refine J.skip ?_)
          refine Nrm.next (i + 1) hlt' (by omega) (by repeat (first | exact Weak.nil | refine Weak.cons rfl (Sub.refl _) ?_))
      · have hi16 : i = 16 := by omega
        subst hi16
        refine J.exit ?_
        have hcl := hclose (some ⟨g, 0, none⟩)
        rw [htail] at hcl
        repeat (first | refine Plan.move rfl rfl rfl rfl ?_ | refine J.region mixed hI (by kernel_rfl) ?_)
        refine Plan.regroup [diskC β (crashOf l f keep at_ turn) f r] (by kernel_rfl) hI (key := 1000) rfl (hcl.trans Ent.addEmp) ?_
        refine Plan.callC (key := 1000) (q := 0) rfl rfl rfl (disk_Sync β (crashOf l f keep at_ turn) f r) Try.func33 rfl rfl (by intro _ e; cases e; decide) (by repeat (first | exact Opnds.nil | refine Opnds.cons rfl (by exact Sub.refl _) ?_)) rfl hA rfl ?_
        intro _ _
        exact Nrm.retC0 (key := 1000) () rfl rfl rfl trivial Ent.one (.inl rfl)
  · have htail : tailOf t0 at_ turn = t0 := by unfold tailOf; rw [ht0l, if_neg h2]
    refine Plan.sliceAny rfl rfl rfl rfl eltB rfl (by omega) ?_
    repeat (first | refine Plan.move rfl rfl rfl rfl ?_ | refine Plan.assign rfl rfl rfl rfl ?_ | (refine Plan.ints rfl rfl rfl rfl rfl rfl ?_; (skip)) | refine J.seq (J.seq (J.region mixed hI (by kernel_rfl) ?_)))
    refine J.condD rfl (fun h3 => ?_) (fun h3 => ?_)
    · omega
    rw [← htail]
    repeat (first | refine Plan.move rfl rfl rfl rfl ?_ | refine J.region mixed hI (by kernel_rfl) ?_ | refine J.skip ?_)
    refine Plan.regroup [diskC β (crashOf l f keep at_ turn) f r] (by kernel_rfl) hI (key := 1000) rfl ((hclose _).trans Ent.addEmp) ?_
    refine Plan.callC (key := 1000) (q := 0) rfl rfl rfl (disk_Sync β (crashOf l f keep at_ turn) f r) Try.func33 rfl rfl (by intro _ e; cases e; decide) (by repeat (first | exact Opnds.nil | refine Opnds.cons rfl (by exact Sub.refl _) ?_)) rfl hA rfl ?_
    intro _ _
    exact Nrm.retC0 (key := 1000) () rfl rfl rfl trivial Ent.one (.inl rfl)
end Go.Proofs.Ytepgphflnelpoaa
end

section
set_option linter.unusedSimpArgs false
set_option linter.unusedVariables false
set_option maxRecDepth 20000
namespace Go.Proofs.Ytepgphflnelpoaa
open Go.Free Go.RowKit Go.Proofs

def evBod (e : EvV) : List UInt8 := 0 :: encB e
def bodOf (m : LogV) : List (List UInt8) := (if m.b = true then [1 :: m.s] else []) ++ m.l.map evBod
def reL (L : List EvV) : List EvV := L.map fun e => decR (encB e)
theorem evs_re {L : List EvV} (h : ∀ e ∈ L, rightP e) : evsC (reL L) = evsC L := by
  induction L with
  | nil => rfl
  | cons e r ih =>
    have h1 := (dec_back (h e List.mem_cons_self)).2
    have h2 := ih fun x hx => h x (List.mem_cons_of_mem _ hx)
    simp only [reL, List.map_cons, evsC, List.flatMap_cons] at h2 ⊢
    rw [h1, h2]
theorem re_ok (L : List EvV) : ∀ x ∈ reL L, x.okV := fun x hx => by
  obtain ⟨e, _, rfl⟩ := List.mem_map.1 hx
  exact decR_ok _
theorem frames_evs (L : List EvV) : frames (L.map evBod) = L.flatMap evF := by
  induction L with
  | nil => rfl
  | cons e r ih => rw [List.map_cons, frames_cons, ih, List.flatMap_cons]; rfl
theorem rwB_bod (s : List UInt8) (L : List EvV) : rwB s L = frames (bodOf ⟨s, true, L⟩) := by
  unfold bodOf rwB
  rw [if_pos rfl, frames_append, frames_evs, frames_cons]
  simp [frames]
theorem take_ev {m : LogV} {f : Bool} {e : EvV} (h : rightP e) : takeM m (evBod e) f = some ⟨m.s, m.b, m.l ++ [decR (encB e)]⟩ := by
  unfold takeM evBod
  simp [(dec_back h).1]
theorem takes_evs : ∀ (L : List EvV) (f : Bool) (m : LogV) (p : Nat), (∀ e ∈ L, rightP e) → takesM (L.map evBod) f m p = (⟨m.s, m.b, m.l ++ reL L⟩, p + (frames (L.map evBod)).length)
  | [], f, m, p, _ => by simp [takesM, reL, frames]
  | e :: r, f, m, p, h => by
    have h1 : takeM m (evBod e) f = some ⟨m.s, m.b, m.l ++ [decR (encB e)]⟩ := take_ev (h e List.mem_cons_self)
    rw [List.map_cons, takes_some h1, takes_evs r false _ _ fun x hx => h x (List.mem_cons_of_mem _ hx), frames_cons, List.length_append, fPut_length]
    simp only [reL, List.map_cons, List.append_assoc, List.cons_append, List.nil_append, Prod.mk.injEq, true_and]
    omega
theorem bod_le {m : LogV} (hs : m.s.length ≤ 65528) (hr : ∀ e ∈ m.l, rightP e) : ∀ x ∈ bodOf m, x.length ≤ 65529 := fun x hx => by
  unfold bodOf at hx
  rcases List.mem_append.1 hx with hx | hx
  · split at hx
    · rw [List.mem_singleton.1 hx, List.length_cons]; omega
    · cases hx
  · obtain ⟨e, he, rfl⟩ := List.mem_map.1 hx
    have := encB_le (hr e he)
    unfold evBod; rw [List.length_cons]; omega
/-- So many bodies of a log that was laid, ahead of whatever: the snapshot if there is one, and so many events. -/
theorem takes_bod (m : LogV) (j : Nat) (hm : m.b = false → m.s = []) (hj : (if m.b = true then 1 else 0) ≤ j) (hr : ∀ e ∈ m.l, rightP e) :
    takesM ((bodOf m).take j) true log0 0 = (⟨m.s, m.b, reL (m.l.take (j - (if m.b = true then 1 else 0)))⟩, (frames ((bodOf m).take j)).length) := by
  obtain ⟨s, b, L⟩ := m
  dsimp only at *
  have hr' : ∀ k, ∀ e ∈ L.take k, rightP e := fun k e he => hr e (List.mem_of_mem_take he)
  cases b with
  | true =>
    simp only [if_true] at hj ⊢
    obtain ⟨i, rfl⟩ : ∃ i, j = i + 1 := ⟨j - 1, by omega⟩
    have e1 : (bodOf ⟨s, true, L⟩).take (i + 1) = (1 :: s) :: (L.take i).map evBod := by unfold bodOf; simp
    have h1 : takeM log0 (1 :: s) true = some ⟨s, true, []⟩ := rfl
    rw [e1, takes_some h1, takes_evs _ _ _ _ (hr' i), Nat.add_sub_cancel, frames_cons, List.length_append, fPut_length]
    simp only [List.nil_append, Prod.mk.injEq, true_and]
    omega
  | false =>
    have e1 : (bodOf ⟨s, false, L⟩).take j = (L.take j).map evBod := by unfold bodOf; simp
    obtain rfl := hm rfl
    rw [e1, takes_evs _ _ _ _ (hr' j)]
    simp [log0]
theorem open_bod (m : LogV) (hm : m.b = false → m.s = []) (hs : m.s.length ≤ 65528) (hr : ∀ e ∈ m.l, rightP e) : openM (frames (bodOf m)) = (⟨m.s, m.b, reL m.l⟩, (frames (bodOf m)).length) := by
  unfold openM
  rw [scan_all _ (bod_le hs hr)]
  have hl : (bodOf m).length = (if m.b = true then 1 else 0) + m.l.length := by unfold bodOf; split <;> simp [Nat.add_comm]
  have := takes_bod m (bodOf m).length hm (by rw [hl]; omega) hr
  rw [List.take_length, hl, Nat.add_sub_cancel_left, List.take_length] at this
  exact this
theorem crash_all (l : List UInt8) (k a t : Int) : crashOf l l.length k a t = l := by
  unfold crashOf
  rw [List.take_length, List.drop_length, List.take_nil]
  unfold tailOf
  rw [if_neg (by simp), List.append_nil]
theorem rwM_cases (m : LogV) (f : Nat) (l : List UInt8) (df r : Nat) (s : List UInt8) (L : List EvV) (hs : s.length ≤ 65528) :
    rwM m f l df r s L = ((m, f), (l, df), 1) ∨ rwM m f l df r s L = ((m, f), (l, df), 9) ∨ ((∀ e ∈ L, rightP e) ∧ (rwB s L).length ≤ r ∧ rwM m f l df r s L = ((⟨s, true, L⟩, L.length), (rwB s L, (rwB s L).length), 0)) := by
  unfold rwM
  rw [if_neg (by omega)]
  cases h : okAll L with
  | false => exact .inl (by simp)
  | true =>
    simp only [Bool.true_eq_false, if_false]
    by_cases hf : (rwB s L).length ≤ r
    · rw [if_pos hf]; exact .inr (.inr ⟨okAll_iff.1 h, hf, rfl⟩)
    · rw [if_neg hf]; exact .inr (.inl rfl)
theorem sub8F {w0 : World} {u : Value} {sc : List OpV8} (h : opsH sc w0 u) : Sub (fun w => Below w0.heap.size w0 w) (.ex u) (ops8F sc) := fun w y hw hy => by
  simp only [Fa.den] at hy
  subst hy
  exact ⟨rowH_mono hw h.1, fun o ho => rowH_mono hw (h.2 o ho)⟩
theorem below_froz {w0 : World} : ∀ w, Below w0.heap.size w0 w → ∀ b, b < w0.heap.size → b < w.heap.size ∧ w.heap[b]? = w0.heap[b]? := fun w hw b hb => ⟨Nat.lt_of_lt_of_le hb hw.size, hw.block b hb⟩
end Go.Proofs.Ytepgphflnelpoaa
end

section
set_option linter.unusedSimpArgs false
set_option linter.unusedVariables false
set_option maxRecDepth 20000
namespace Go.Proofs.Ytepgphflnelpoaa
open Go.Free Go.RowKit Go.Proofs

/-- Bits turned from a place on, up to i of them, those that are chosen. -/
def burst (l : List UInt8) (p : Nat) (sel : Nat → Bool) : Nat → List UInt8
  | 0 => l
  | i + 1 => if sel i then flipAt (burst l p sel i) (p + i) else burst l p sel i
theorem burst_length (l : List UInt8) (p : Nat) (sel : Nat → Bool) : ∀ i, (burst l p sel i).length = l.length
  | 0 => rfl
  | i + 1 => by
    unfold burst
    split
    · rw [flip_length, burst_length l p sel i]
    · exact burst_length l p sel i
theorem flip_far {l : List UInt8} {p : Nat} (h : 8 * l.length ≤ p) : flipAt l p = l := by
  unfold flipAt
  rw [List.set_eq_of_length_le (by omega)]
theorem burst_far {l : List UInt8} {p : Nat} (sel : Nat → Bool) (h : 8 * l.length ≤ p) : ∀ i, burst l p sel i = l
  | 0 => rfl
  | i + 1 => by
    unfold burst
    rw [burst_far sel h i]
    split
    · exact flip_far (by omega)
    · rfl
theorem flip_take (l : List UInt8) (p n : Nat) : (flipAt l p).take n = flipAt (l.take n) p := by
  unfold flipAt
  rw [List.take_set]
  by_cases h : p / 8 < n
  · congr 2
    simp only [List.getD_eq_getElem?_getD, List.getElem?_take, if_pos h]
  · rw [List.set_eq_of_length_le (by rw [List.length_take]; omega), List.set_eq_of_length_le (by rw [List.length_take]; omega)]
theorem burst_take (l : List UInt8) (p : Nat) (sel : Nat → Bool) (n : Nat) : ∀ i, (burst l p sel i).take n = burst (l.take n) p sel i
  | 0 => rfl
  | i + 1 => by
    unfold burst
    split
    · rw [flip_take, burst_take l p sel n i]
    · exact burst_take l p sel n i
theorem flip_drop (l : List UInt8) {p n : Nat} (h : 8 * n ≤ p) : (flipAt l p).drop n = flipAt (l.drop n) (p - 8 * n) := by
  unfold flipAt
  have e1 : (p - 8 * n) / 8 = p / 8 - n := by omega
  have e2 : bitAt (p - 8 * n) = bitAt p := by unfold bitAt; rw [show (p - 8 * n) % 8 = p % 8 by omega]
  rw [List.drop_set, if_neg (by omega), e1, e2]
  congr 2
  simp only [List.getD_eq_getElem?_getD, List.getElem?_drop]
  rw [show n + (p / 8 - n) = p / 8 by omega]
theorem burst_drop (l : List UInt8) {p n : Nat} (sel : Nat → Bool) (h : 8 * n ≤ p) : ∀ i, (burst l p sel i).drop n = burst (l.drop n) (p - 8 * n) sel i
  | 0 => rfl
  | i + 1 => by
    unfold burst
    split
    · rw [flip_drop _ (by omega), burst_drop l sel h i, show p + i - 8 * n = p - 8 * n + i by omega]
    · exact burst_drop l sel h i
/-- What lies ahead of the first bit that is chosen is left out. -/
theorem burst_skip (l : List UInt8) (p j : Nat) (sel : Nat → Bool) (h : ∀ i, i < j → sel i = false) : ∀ i, burst l p sel (j + i) = burst l (p + j) (fun q => sel (j + q)) i
  | 0 => by
    have : ∀ k, k ≤ j → burst l p sel k = l := by
      intro k
      induction k with
      | zero => intro _; rfl
      | succ k ih => intro hk; unfold burst; rw [h k (by omega), if_neg (by simp)]; exact ih (by omega)
    exact this j (Nat.le_refl _)
  | i + 1 => by
    rw [show j + (i + 1) = (j + i) + 1 by omega]
    unfold burst
    rw [burst_skip l p j sel h i, show p + (j + i) = p + j + i by omega]
/-- What they do to the check: as far as they lie in the bytes. -/
def topS (sel : Nat → Bool) : Nat → BitVec 16
  | 0 => 0#16
  | i + 1 => if sel i then topS sel i ^^^ crcSteps (15 - i) 1#16 else topS sel i
theorem topS_high (sel : Nat → Bool) (h : sel 0 = true) : ∀ i, i < 16 → (topS sel (i + 1)).getLsbD 15 = true
  | 0, _ => by
    simp only [topS, h, if_true, BitVec.zero_xor]
    rw [steps_one _ (by omega), BitVec.getLsbD_twoPow]; rfl
  | i + 1, hi => by
    have ih := topS_high sel h i (by omega)
    rw [topS]
    split
    · rw [BitVec.getLsbD_xor, ih, steps_one _ (by omega), BitVec.getLsbD_twoPow]
      have : (decide (15 - (i + 1) < 16) && decide (15 - (i + 1) = 15)) = false := by
        have : ¬ (15 - (i + 1) = 15) := by omega
        rw [decide_eq_false this, Bool.and_false]
      rw [this]; rfl
    · exact ih
theorem crc_burst (l : List UInt8) (p : Nat) (sel : Nat → Bool) (hp : p < 8 * l.length) : ∀ i, i ≤ 16 → crcOf (burst l p sel i) = crcOf l ^^^ crcSteps (8 * l.length - p) (topS (fun j => sel j && decide (p + j < 8 * l.length)) i)
  | 0, _ => by simp only [burst, topS, steps_of_zero, BitVec.xor_zero]
  | i + 1, hi => by
    have ih := crc_burst l p sel hp i (by omega)
    unfold burst topS
    by_cases hs : sel i = true
    · by_cases hr : p + i < 8 * l.length
      · rw [if_pos hs, if_pos (by simp [hs, hr])]
        unfold crcOf at ih ⊢
        rw [from_flip _ _ _ (by rw [burst_length]; exact hr), ih, burst_length, steps_xor, ← steps_add, BitVec.xor_assoc]
        congr 3
        omega
      · rw [if_pos hs, if_neg (by simp [hr]), flip_far (by rw [burst_length]; omega)]
        exact ih
    · rw [if_neg hs, if_neg (by simp [hs])]
      exact ih
theorem burst_fits (x : List UInt8) (p : Nat) (sel : Nat → Bool) (hs : sel 0 = true) (i : Nat) (hi : i < 16) (hp : p < 8 * (crcSeal x).length) : fits (burst (crcSeal x) p sel (i + 1)) = false := by
  have hl : (crcSeal x).length = x.length + 2 := seal_length x
  have h0 : crcOf (crcSeal x) = 0#16 := (fits_zero _ (by omega)).1 (by rw [fits_seal]; rfl)
  have hc := crc_burst (crcSeal x) p sel hp (i + 1) (by omega)
  rw [h0, BitVec.zero_xor] at hc
  cases hf : fits (burst (crcSeal x) p sel (i + 1)) with
  | false => rfl
  | true =>
    have hz := (fits_zero _ (by rw [burst_length]; omega)).1 hf
    rw [hc] at hz
    have h1 := steps_zero _ hz
    have h2 := topS_high (fun j => sel j && decide (p + j < 8 * (crcSeal x).length)) (by simp [hs, hp]) i hi
    rw [h1] at h2
    simp at h2
/-- A frame with such bits turned is none. -/
theorem fTake0_turned (x r : List UInt8) (h : x.length ≤ 65529) (p : Nat) (sel : Nat → Bool) (hs : sel 0 = true) (i : Nat) (hi : i < 16) (hp : p < 8 * (fPut x).length) : (fTake0 (burst (fPut x ++ r) p sel (i + 1))).2.2 ≠ 0 := by
  rw [fPut_length] at hp
  have hll : (burst (fPut x ++ r) p sel (i + 1)).length = x.length + 6 + r.length := by rw [burst_length, List.length_append, fPut_length]
  have hh : (crcSeal (hdr x.length)).length = 4 := by rw [seal_length]; rfl
  have e4 : (fPut x ++ r).take 4 = crcSeal (hdr x.length) := by
    rw [List.take_append_of_le_length (by rw [fPut_length]; omega)]
    unfold fPut; rw [List.take_left' hh]
  have hb4 : (burst (fPut x ++ r) p sel (i + 1)).take 4 = burst (crcSeal (hdr x.length)) p sel (i + 1) := by rw [burst_take, e4]
  unfold fTake0
  rw [hll, if_neg (by omega), hb4]
  by_cases h32 : p < 32
  · rw [if_pos (burst_fits _ p sel hs i hi (by rw [hh]; omega))]; decide
  · rw [burst_far sel (by rw [hh]; omega)]
    unfold opened fits
    rw [fits_seal]
    simp only [Option.getD_some, Option.isSome_some]
    rw [hlen_hdr h, if_neg (by decide), if_neg (by omega), if_neg (by omega)]
    have eb : ((burst (fPut x ++ r) p sel (i + 1)).take (x.length + 6)).drop 4 = burst (crcSeal x) (p - 32) sel (i + 1) := by
      rw [burst_take, burst_drop _ sel (by omega)]
      congr 1
      rw [List.take_append_of_le_length (by rw [fPut_length]; omega), List.take_of_length_le (by rw [fPut_length]; omega)]
      unfold fPut; rw [List.drop_left' hh]
    rw [eb]
    have := burst_fits x (p - 32) sel hs i hi (by rw [seal_length]; omega)
    unfold fits at this
    rw [if_pos this]; decide
theorem scan_turned (ls : List (List UInt8)) (h : ∀ x ∈ ls, x.length ≤ 65529) (p : Nat) (sel : Nat → Bool) (hs : sel 0 = true) (i : Nat) (hi : i < 16) (hp : p < 8 * (frames ls).length) :
    ∃ m, m < ls.length ∧ (frames (ls.take m)).length ≤ p / 8 ∧ p / 8 < (frames (ls.take m)).length + ((ls.getD m []).length + 6) ∧ scanL (burst (frames ls) p sel (i + 1)) 0 = (ls.take m, (frames (ls.take m)).length) := by
  obtain ⟨m, j, h1, h2, h3, _⟩ := cut_at ls (p / 8) (by omega)
  rw [fPut_length] at h2
  refine ⟨m, h1, by omega, by omega, ?_⟩
  have hx : (ls.getD m []).length ≤ 65529 := by
    rw [List.getD_eq_getElem?_getD, List.getElem?_eq_getElem h1]; exact h _ (List.getElem_mem h1)
  have hsp : frames ls = frames (ls.take m) ++ (fPut (ls.getD m []) ++ frames (ls.drop (m + 1))) := by
    conv => lhs; rw [← List.take_append_drop m ls, List.drop_eq_getElem_cons h1]
    rw [frames_append, frames_cons, List.getD_eq_getElem?_getD, List.getElem?_eq_getElem h1]; rfl
  obtain ⟨n, hn⟩ : ∃ n, n = (frames (ls.take m)).length := ⟨_, rfl⟩
  have ht : (burst (frames ls) p sel (i + 1)).take n = frames (ls.take m) := by
    rw [burst_take, burst_far sel (by rw [List.length_take]; omega), hsp, hn, List.take_left]
  have hd : (burst (frames ls) p sel (i + 1)).drop n = burst (fPut (ls.getD m []) ++ frames (ls.drop (m + 1))) (p - 8 * n) sel (i + 1) := by
    rw [burst_drop _ sel (by omega), hsp, hn, List.drop_left]
  have hr := fTake0_turned (ls.getD m []) (frames (ls.drop (m + 1))) hx (p - 8 * n) sel hs i hi (by rw [fPut_length]; omega)
  rw [← hd] at hr
  have hsc := scan_frames _ hr (ls.take m) [] fun x hx => h x (List.mem_of_mem_take hx)
  rw [← List.take_append_drop n (burst (frames ls) p sel (i + 1)), ht]
  simpa using hsc
end Go.Proofs.Ytepgphflnelpoaa
end

section
set_option linter.unusedSimpArgs false
set_option linter.unusedVariables false
set_option maxRecDepth 20000
namespace Go.Proofs.Ytepgphflnelpoaa
open Go.Free Go.RowKit Go.Proofs

theorem take0_cutTurned (x r : List UInt8) (h : x.length ≤ 65529) (p : Nat) (sel : Nat → Bool) (hs : sel 0 = true) (i : Nat) (hi : i < 16) (j : Nat) (hp : p < 8 * (fPut x).length) (hpj : p < 8 * j) :
    (fTake0 ((burst (fPut x ++ r) p sel (i + 1)).take j)).2.2 ≠ 0 := by
  by_cases hj : (fPut x).length ≤ j
  · rw [burst_take, List.take_append, List.take_of_length_le hj]
    exact fTake0_turned x _ h p sel hs i hi hp
  · have hfl := fPut_length x
    have hll : ((burst (fPut x ++ r) p sel (i + 1)).take j).length = j := by rw [List.length_take, burst_length, List.length_append]; omega
    have hh : (crcSeal (hdr x.length)).length = 4 := by rw [seal_length]; rfl
    have e4 : (fPut x ++ r).take 4 = crcSeal (hdr x.length) := by
      rw [List.take_append_of_le_length (by rw [fPut_length]; omega)]
      unfold fPut; rw [List.take_left' hh]
    unfold fTake0
    rw [hll]
    by_cases h4 : j < 4
    · rw [if_pos h4]; decide
    rw [if_neg h4]
    have hb4 : ((burst (fPut x ++ r) p sel (i + 1)).take j).take 4 = burst (crcSeal (hdr x.length)) p sel (i + 1) := by rw [List.take_take, Nat.min_eq_left (by omega), burst_take, e4]
    rw [hb4]
    by_cases h32 : p < 32
    · rw [if_pos (burst_fits _ p sel hs i hi (by rw [hh]; omega))]; decide
    · rw [burst_far sel (by rw [hh]; omega)]
      unfold opened fits
      rw [fits_seal]
      simp only [Option.getD_some, Option.isSome_some]
      rw [hlen_hdr h, if_neg (by decide), if_neg (by omega), if_pos (by omega)]
      decide
theorem burst_none (l : List UInt8) (p : Nat) (sel : Nat → Bool) : ∀ i, (∀ j, j < i → sel j = false) → burst l p sel i = l
  | 0, _ => rfl
  | i + 1, h => by
    show (if sel i then _ else _) = l
    rw [h i (Nat.lt_succ_self i)]
    exact burst_none l p sel i fun j hj => h j (by omega)
theorem first_sel (sel : Nat → Bool) : ∀ n, (∀ j, j < n → sel j = false) ∨ ∃ j, j < n ∧ sel j = true ∧ ∀ i, i < j → sel i = false
  | 0 => .inl fun j hj => by omega
  | n + 1 => by
    rcases first_sel sel n with h | ⟨j, h1, h2, h3⟩
    · cases hn : sel n with
      | false =>
        refine .inl fun j hj => ?_
        rcases Nat.lt_or_ge j n with h' | h'
        · exact h j h'
        · have : j = n := by omega
          rw [this]; exact hn
      | true => exact .inr ⟨n, Nat.lt_succ_self n, hn, h⟩
    · exact .inr ⟨j, by omega, h2, h3⟩
/-- Frames that are cut off: whole ones, and what is none. -/
theorem cut_laid (ls : List (List UInt8)) (h : ∀ x ∈ ls, x.length ≤ 65529) (k : Nat) : ∃ m r, m ≤ ls.length ∧ (frames ls).take k = frames (ls.take m) ++ r ∧ (fTake0 r).2.2 ≠ 0 := by
  rcases Nat.lt_or_ge k (frames ls).length with hlt | hge
  · obtain ⟨m, j, h1, h2, h3, h4⟩ := cut_at ls k hlt
    have hm : (ls.getD m []).length ≤ 65529 := by
      rw [List.getD_eq_getElem?_getD, List.getElem?_eq_getElem h1]; exact h _ (List.getElem_mem h1)
    exact ⟨m, _, by omega, h4, fTake0_cut _ hm j h2⟩
  · exact ⟨ls.length, [], Nat.le_refl _, by rw [List.take_length, List.take_of_length_le hge, List.append_nil], fTake0_nil⟩
theorem turned_laid (ls : List (List UInt8)) (h : ∀ x ∈ ls, x.length ≤ 65529) (p : Nat) (sel : Nat → Bool) (k : Nat) (hk : k ≤ (frames ls).length) :
    ∃ m r, m ≤ ls.length ∧ (burst (frames ls) p sel 16).take k = frames (ls.take m) ++ r ∧ (fTake0 r).2.2 ≠ 0 := by
  rcases first_sel sel 16 with hno | ⟨j, hj, hsj, hbe⟩
  · rw [burst_none _ _ _ 16 hno]
    exact cut_laid ls h k
  obtain ⟨i, hi⟩ : ∃ i, 16 = j + (i + 1) := ⟨15 - j, by omega⟩
  rw [hi, burst_skip _ _ _ _ hbe]
  generalize hs' : (fun q => sel (j + q)) = s'
  have hs0 : s' 0 = true := by rw [← hs']; exact hsj
  generalize p + j = q
  by_cases hq : 8 * k ≤ q
  · rw [burst_take, burst_far s' (by rw [List.length_take]; omega)]
    exact cut_laid ls h k
  · obtain ⟨m, jj, h1, h2, h3, _⟩ := cut_at ls (q / 8) (by omega)
    rw [fPut_length] at h2
    have hx : (ls.getD m []).length ≤ 65529 := by
      rw [List.getD_eq_getElem?_getD, List.getElem?_eq_getElem h1]; exact h _ (List.getElem_mem h1)
    have hsp : frames ls = frames (ls.take m) ++ (fPut (ls.getD m []) ++ frames (ls.drop (m + 1))) := by
      conv => lhs; rw [← List.take_append_drop m ls, List.drop_eq_getElem_cons h1]
      rw [frames_append, frames_cons, List.getD_eq_getElem?_getD, List.getElem?_eq_getElem h1]; rfl
    obtain ⟨n, hn⟩ : ∃ n, n = (frames (ls.take m)).length := ⟨_, rfl⟩
    have ht : (burst (frames ls) q s' (i + 1)).take n = frames (ls.take m) := by
      rw [burst_take, burst_far s' (by rw [List.length_take]; omega), hsp, hn, List.take_left]
    have hd : (burst (frames ls) q s' (i + 1)).drop n = burst (fPut (ls.getD m []) ++ frames (ls.drop (m + 1))) (q - 8 * n) s' (i + 1) := by
      rw [burst_drop _ s' (by omega), hsp, hn, List.drop_left]
    have hr := take0_cutTurned (ls.getD m []) (frames (ls.drop (m + 1))) hx (q - 8 * n) s' hs0 i (by omega) (k - n) (by rw [fPut_length]; omega) (by omega)
    refine ⟨m, _, by omega, ?_, hr⟩
    rw [← hd]
    conv => lhs; rw [← List.take_append_drop n (burst (frames ls) q s' (i + 1)), ht]
    rw [List.take_append, List.take_of_length_le (by omega), hn]
theorem flips_burst (l : List UInt8) (p m : Nat) : ∀ i, flips l p m i = burst l p (fun j => decide (m / 2 ^ (15 - j) % 2 = 1)) i
  | 0 => rfl
  | i + 1 => by
    unfold flips burst
    rw [flips_burst l p m i]
    by_cases h : m / 2 ^ (15 - i) % 2 = 1
    · rw [if_pos h, if_pos (decide_eq_true h)]
    · rw [if_neg h, if_neg (by rw [decide_eq_false h]; decide)]
theorem tail_burst (l : List UInt8) (k : Nat) (a t : Int) : ∃ p sel, tailOf (l.take k) a t = (burst l p sel 16).take k := by
  unfold tailOf
  split
  · rw [flips_burst, ← burst_take]
    exact ⟨_, _, rfl⟩
  · exact ⟨0, fun _ => false, by rw [burst_none _ _ _ 16 fun _ _ => rfl]⟩
/-- Behind a crash: whole frames, all that were fast among them, and what is none. -/
theorem crash_laid (bs : List (List UInt8)) (h : ∀ x ∈ bs, x.length ≤ 65529) (c : Nat) (hc : c ≤ bs.length) (k a t : Int) :
    ∃ j r, c ≤ j ∧ j ≤ bs.length ∧ crashOf (frames bs) (frames (bs.take c)).length k a t = frames (bs.take j) ++ r ∧ (fTake0 r).2.2 ≠ 0 := by
  have hsp : frames bs = frames (bs.take c) ++ frames (bs.drop c) := by rw [← frames_append, List.take_append_drop]
  obtain ⟨kp, hkp⟩ : ∃ kp, kp = keptOf ((frames bs).length - (frames (bs.take c)).length) k := ⟨_, rfl⟩
  have hkl : kp ≤ (frames (bs.drop c)).length := by
    have := kept_le ((frames bs).length - (frames (bs.take c)).length) k
    have := congrArg List.length hsp
    rw [List.length_append] at this
    omega
  unfold crashOf
  rw [← hkp]
  have h1 : (frames bs).take (frames (bs.take c)).length = frames (bs.take c) := by rw [hsp, List.take_left]
  have h2 : (frames bs).drop (frames (bs.take c)).length = frames (bs.drop c) := by rw [hsp, List.drop_left]
  rw [h1, h2]
  obtain ⟨p, sel, hb⟩ := tail_burst (frames (bs.drop c)) kp a t
  rw [hb]
  obtain ⟨m, r, m1, m2, m3⟩ := turned_laid (bs.drop c) (fun x hx => h x (List.mem_of_mem_drop hx)) p sel kp hkl
  rw [List.length_drop] at m1
  refine ⟨c + m, r, by omega, by omega, ?_, m3⟩
  rw [m2, ← List.append_assoc, ← frames_append, List.take_add]
/-- How a log lies: its bodies one behind the other; so many events are fast. -/
structure LaidA (m : LogV) (fl : Nat) (l : List UInt8) (df : Nat) : Prop where
  bytes : l = frames (bodOf m)
  few : fl ≤ m.l.length
  fast : df = (frames ((bodOf m).take ((if m.b = true then 1 else 0) + fl))).length
  none : m.b = false → m.s = []
  short : m.s.length ≤ 65528
  right : ∀ e ∈ m.l, rightP e
theorem bod_len (m : LogV) : (bodOf m).length = (if m.b = true then 1 else 0) + m.l.length := by unfold bodOf; split <;> simp [Nat.add_comm]
theorem bod_snoc (m : LogV) (e : EvV) : bodOf ⟨m.s, m.b, m.l ++ [e]⟩ = bodOf m ++ [evBod e] := by unfold bodOf; simp
theorem bod_take (m : LogV) (j : Nat) : (bodOf m).take ((if m.b = true then 1 else 0) + j) = bodOf ⟨m.s, m.b, m.l.take j⟩ := by
  unfold bodOf
  cases m.b with
  | true => simp [Nat.add_comm 1 j]
  | false => simp
theorem frames_snoc (bs : List (List UInt8)) (e : EvV) : frames (bs ++ [evBod e]) = frames bs ++ evF e := by
  rw [frames_append, frames_cons]; simp [frames, evF, evBod]
theorem laid0 : LaidA log0 0 [] 0 := ⟨rfl, Nat.le_refl _, rfl, fun _ => rfl, Nat.zero_le _, fun e he => by cases he⟩
theorem laid_add {m : LogV} {fl : Nat} {l : List UInt8} {df r : Nat} (h : LaidA m fl l df) (e : EvV) : LaidA (addM m l r e).1 fl (addM m l r e).2.1 df := by
  unfold addM
  split
  · rename_i hr
    split
    · refine ⟨by dsimp only; rw [bod_snoc, frames_snoc, h.bytes], by dsimp only; rw [List.length_append]; have := h.few; omega, ?_, h.none, h.short, fun x hx => ?_⟩
      · dsimp only
        rw [bod_snoc, List.take_append_of_le_length (by rw [bod_len]; have := h.few; omega)]
        exact h.fast
      · rcases List.mem_append.1 hx with hx | hx
        · exact h.right x hx
        · rw [List.mem_singleton.1 hx]; exact hr
    · exact h
  · exact h
theorem laid_sync {m : LogV} {fl : Nat} {l : List UInt8} {df : Nat} (h : LaidA m fl l df) : LaidA m m.l.length l l.length :=
  ⟨h.bytes, Nat.le_refl _, by rw [← bod_len, List.take_length, h.bytes], h.none, h.short, h.right⟩
theorem laid_rw {m : LogV} {fl : Nat} {l : List UInt8} {df r : Nat} {s : List UInt8} {L : List EvV} (h : LaidA m fl l df) : LaidA (rwM m fl l df r s L).1.1 (rwM m fl l df r s L).1.2 (rwM m fl l df r s L).2.1.1 (rwM m fl l df r s L).2.1.2 := by
  unfold rwM
  split
  · exact h
  · rename_i h1
    split
    · exact h
    · rename_i h2
      split
      · have hyes : okAll L = true := by
          cases h3 : okAll L with
          | true => rfl
          | false => exact absurd h3 h2
        refine ⟨rwB_bod s L, Nat.le_refl _, ?_, (fun h => by cases h), (by dsimp only; omega), okAll_iff.1 hyes⟩
        dsimp only
        rw [← bod_len ⟨s, true, L⟩, List.take_length, rwB_bod]
      · exact h
theorem laid_crash {m : LogV} {fl : Nat} {l : List UInt8} {df : Nat} (h : LaidA m fl l df) (k a t : Int) :
    ∃ j, fl ≤ j ∧ j ≤ m.l.length ∧ openM (crashOf l df k a t) = (⟨m.s, m.b, reL (m.l.take j)⟩, (frames (bodOf ⟨m.s, m.b, m.l.take j⟩)).length) ∧
      (crashOf l df k a t).take (frames (bodOf ⟨m.s, m.b, m.l.take j⟩)).length = frames (bodOf ⟨m.s, m.b, m.l.take j⟩) := by
  obtain ⟨hb, hf, hfa, hn, hs, hr⟩ := h
  have hle := bod_le hs hr
  obtain ⟨i, r, i1, i2, i3, i4⟩ := crash_laid (bodOf m) hle ((if m.b = true then 1 else 0) + fl) (by rw [bod_len]; omega) k a t
  rw [bod_len] at i2
  obtain ⟨j, rfl⟩ : ∃ j, i = (if m.b = true then 1 else 0) + j := ⟨i - (if m.b = true then 1 else 0), by omega⟩
  rw [← hb, ← hfa] at i3
  refine ⟨j, by omega, by omega, ?_, ?_⟩
  · unfold openM
    rw [i3]
    have hsc := scan_frames r i4 ((bodOf m).take ((if m.b = true then 1 else 0) + j)) [] fun x hx => hle x (List.mem_of_mem_take hx)
    simp only [List.nil_append, List.length_nil] at hsc
    rw [hsc]
    have := takes_bod m ((if m.b = true then 1 else 0) + j) hn (by omega) hr
    rw [Nat.add_sub_cancel_left] at this
    dsimp only
    rw [this, bod_take]
  · rw [i3, bod_take, List.take_left]
end Go.Proofs.Ytepgphflnelpoaa
end

section
set_option linter.unusedSimpArgs false
set_option linter.unusedVariables false
set_option maxRecDepth 20000
namespace Go.Free
open Go.RowKit
section
variable {P : Program} {ops : Array Oper} {Q : Exit → Act → World → Prop} {n : Nat} {I : World → Prop} {k i : Nat} {E : Env} {o : Oper} {d : Bool}
theorem run_append_zero {w : World} {t ty e : TypeId} {inf : TypeInfo} {A : Option Addr} {ad : Addr} {m cp c2 : Nat} (ht : P.underlying t = some (.slice e)) (hi : P.info? e = some inf) (hmc : m ≤ cp) :
    (Builtin.append_ #[t, t] ty #[.slice A m cp, .slice (some ad) 0 c2]).run P w = .ok (.slice A m cp) w := by
  cases A <;> simp [Builtin.append_, run_underlying ht, sizeOf, typeInfo, hi, Builtin.lenOf, Builtin.firstCells, hmc, storeCells, loadCells, loadCellsFrom]
theorem run_append_fullOwn {w : World} {t ty e : TypeId} {z : Value} {sz bytes B g m : Nat} {xs news : List Value} {y : Value} (he : Elt P t e z sz bytes)
    (hown : ownH B e sz xs w (.slice (some ⟨g, 0, none⟩) m m)) (hy : rowH sz news w y) (h1 : ∀ u ∈ news, u.oneCell' = true) (hlim : (xs.length + news.length) * bytes ≤ 140737488355328 * sz) :
    ∃ v' w', (Builtin.append_ #[t, t] ty #[.slice (some ⟨g, 0, none⟩) m m, y]).run P w = .ok v' w' ∧ ownH B e sz (xs ++ news) w' v' ∧ Below w.heap.size w w' := by
  obtain ⟨inf, hi, hz, hsz, hby⟩ := he.hi
  by_cases hne : news = []
  · subst hne
    obtain ⟨A2, m2, c2, rfl, hmc, hcM, hl, hnil, hcell⟩ := id hy
    have hm2 : m2 = 0 := by
      have := he.hs
      rcases Nat.eq_zero_or_pos m2 with h | h
      · exact h
      · have := Nat.mul_pos h this
        simp at hl; omega
    subst hm2
    refine ⟨.slice (some ⟨g, 0, none⟩) m m, w, ?_, by rw [List.append_nil]; exact hown, Below.refl _ _⟩
    cases A2 with
    | none =>
      obtain rfl := hnil rfl
      obtain ⟨_, m', hm'⟩ := hown
      exact run_append_owned_none (P := P) w B t ty e inf sz he.ht hi _ m' xs hm'
    | some ad => exact run_append_zero he.ht hi (Nat.le_refl _)
  · obtain ⟨v1, w1, hr1, h2, _⟩ := run_append_rows (ty := ty) he hown hy h1 hlim
    obtain ⟨v2, w2, hr2, _, h3⟩ := run_append_full_rows (ty := ty) he (own_row hown) hy hne h1 hlim
    rw [hr1] at hr2
    simp only [Result.ok.injEq] at hr2
    obtain ⟨rfl, rfl⟩ := hr2
    exact ⟨v1, w1, hr1, h2, h3⟩
theorem Plan.appendFullOwn {x y : Operand} {t e : TypeId} {z : Value} {sz bytes B m : Nat} {xs news : List Value} {f g : Fa} (ho : ops[i]? = some o) (hop : o.op = .call { callee := .builtin .append, args := #[x, y], argTypes := #[t, t] })
    (hg : wantB ops E o = some true) (hx : opF E x = some f) (hfs : Sub I f (tight B e sz m xs)) (hy : opF E y = some g) (hs : Sub I g (row sz news)) (he : Elt P t e z sz bytes)
    (h1 : ∀ u ∈ news, u.oneCell' = true) (hlim : (xs.length + news.length) * bytes ≤ 140737488355328 * sz)
    (h : Plan P ops Q n I d k (i + 1) (setE o.dst (own B e sz (xs ++ news)) E)) : Plan P ops Q n I d (k + 1) i E :=
  Plan.step ho (Step.run ho hg fun a w hI hs' => by
    have e1 := hfs w _ hI (hs' x (by simp [hop, Op.operands, Call.operands]) _ hx)
    have e2 := hs w _ hI (hs' y (by simp [hop, Op.operands, Call.operands]) _ hy)
    obtain ⟨hown, g0, hv⟩ := e1
    rw [hv] at hown
    obtain ⟨v', w', hr, h2, h3⟩ := run_append_fullOwn (ty := o.type) he hown e2 h1 hlim
    refine ⟨v', w', ?_, h3, by simpa only [own, Fa.den] using h2⟩
    simp only [execOp, hop, resolve, invoke, builtin, List.map_toArray, List.map_cons, List.map_nil, Sem.run_bind, Sem.run_pure, Result.andThen_ok, hv, hr]) h
theorem run_append_same {w : World} {t ty e e2 : TypeId} {z : Value} {sz bytes B B2 : Nat} {xs news : List Value} {x y u : Value} (he : Elt P t e z sz bytes)
    (hown : ownH B e sz xs w x) (hy : rowH sz news w y) (h1 : ∀ u ∈ news, u.oneCell' = true) (hlim : (xs.length + news.length) * bytes ≤ 140737488355328 * sz) (hu : ownH B2 e2 sz (xs ++ news) w u) :
    ∃ v' w', (Builtin.append_ #[t, t] ty #[x, y]).run P w = .ok v' w' ∧ ownH B e sz (xs ++ news) w' v' ∧ w.grownBy w' x.ownBlock ∧ rowH sz (xs ++ news) w' u := by
  obtain ⟨v', w', hr, h2, h3⟩ := run_append_rows (ty := ty) he hown hy h1 hlim
  refine ⟨v', w', hr, h2, h3, ?_⟩
  obtain ⟨hB2, mu, hmu⟩ := id hu
  by_cases hblk : u.ownBlock = none ∨ u.ownBlock ≠ x.ownBlock
  · exact own_row (B := B2) ⟨Nat.le_trans hB2 h3.size, mu, hmu.kept h3 hblk⟩
  · obtain ⟨hb1, hb2⟩ := not_or.1 hblk
    have hb2 : u.ownBlock = x.ownBlock := Classical.not_not.1 hb2
    obtain ⟨inf, hi, hz, hsz, hby⟩ := he.hi
    obtain ⟨hB, n0, hm0⟩ := hown
    rcases hmu.2 with ⟨rfl, _⟩ | ⟨g2, cu, curu, rfl, _, hgu, hu5, hu6, hu7, hu8⟩
    · exact absurd rfl hb1
    rcases hm0.2 with ⟨rfl, _⟩ | ⟨g, cap, cur, rfl, hgB, hgg, h5, h6, h7, h8⟩
    · simp [Value.ownBlock] at hb2
    have hgg2 : g2 = g := by simpa [Value.ownBlock] using hb2
    subst hgg2
    obtain ⟨A2, m2, c2, rfl, hmc, hc, hl, hnil, hcell⟩ := id hy
    have hpos := he.hs
    have hnm : (n0 + m2) * bytes ≤ 140737488355328 := by
      have e1 : (xs.length + news.length) = (n0 + m2) * sz := by rw [hm0.1, hl, Nat.add_mul]
      rw [e1, Nat.mul_assoc, Nat.mul_comm sz bytes, ← Nat.mul_assoc] at hlim
      exact Nat.le_of_mul_le_mul_right hlim hpos
    have h63 : n0 + m2 ≤ maxLen := by
      have := he.hb
      have h2 : n0 + m2 ≤ (n0 + m2) * bytes := Nat.le_mul_of_pos_right _ this
      simp only [maxLen]; omega
    have cells : ∀ (k c : Nat), v' = .slice (some ⟨g2, 0, none⟩) k c → rowH sz (xs ++ news) w' (.slice (some ⟨g2, 0, none⟩) mu cu) := fun k c hv => by
      obtain ⟨A', m', c', e1, e2, e3, e4, e5, e6⟩ := own_row h2
      rw [hv] at e1
      simp only [Value.slice.injEq] at e1
      obtain ⟨rfl, rfl, rfl⟩ := e1
      exact ⟨_, _, _, rfl, hu5, by simpa [maxLen] using hu6, hmu.1, (fun h => by cases h), e6⟩
    cases A2 with
    | none =>
      obtain rfl := hnil rfl
      obtain rfl : m2 = 0 := by omega
      have hr2 := run_append_owned_none (P := P) w B t ty e inf sz he.ht hi _ n0 xs hm0
      rw [hr2] at hr
      simp only [Result.ok.injEq] at hr
      exact cells _ _ hr.1.symm
    | some ad =>
      have hcs : ∀ j u, news[j]? = some u → w.cell? (ad.add j) = some u := fun j u hu => by
        obtain ⟨ad', hA, hc⟩ := hcell j u hu
        cases hA; exact hc
      by_cases hroom : n0 + m2 ≤ cap
      · obtain ⟨w3, hr3, _, _⟩ := run_append_fits (P := P) w B t ty e inf sz he.ht hi hsz g2 n0 cap xs hm0 ad m2 c2 news hl hcs h1 hroom
        rw [hr3] at hr
        simp only [Result.ok.injEq] at hr
        exact cells _ _ hr.1.symm
      · have hr3 := run_append_grow (P := P) w t ty e inf z he.ht hi hz ⟨g2, 0, none⟩ n0 cap xs (by rw [hsz]; exact hm0.1) (hm0.cells (g := g2) rfl) ad m2 c2 news (by rw [hsz]; exact hl) hcs (by omega) (by have := h63; simp only [maxLen] at this; omega) (growslice_fits (by omega) (by rw [hby]; exact hnm))
        rw [hr3] at hr
        simp only [Result.ok.injEq] at hr
        refine rowH_mono ?_ (own_row hu)
        rw [← hr.2]
        exact ⟨rfl, rfl, rfl, by simp, fun b hb => (World.grownBy_alloc w.drew _ none).block b (by simpa using hb) (by simp)⟩
/-- append(own, row...) beside a slot whose own row has just what is then there: that is known of it still. -/
theorem Plan.appendSame {x y : Operand} {t e e2 : TypeId} {z : Value} {sz bytes B B2 tu : Nat} {xs news : List Value} {f g fu : Fa} (ho : ops[i]? = some o) (hop : o.op = .call { callee := .builtin .append, args := #[x, y], argTypes := #[t, t] })
    (hg : wantB ops E o = some true) (hx : opF E x = some f) (hfs : Sub I f (own B e sz xs)) (hy : opF E y = some g) (hs : Sub I g (row sz news)) (hu : look E tu = some fu) (hus : Sub I fu (own B2 e2 sz (xs ++ news))) (he : Elt P t e z sz bytes)
    (hd : ∀ d, o.dst = some d → d < n ∧ d ≠ tu) (hG : ∀ w w' r, I w → w.grownBy w' r → (∀ b, r = some b → B ≤ b) → I w') (h1 : ∀ u ∈ news, u.oneCell' = true) (hlim : (xs.length + news.length) * bytes ≤ 140737488355328 * sz)
    (h : Plan P ops Q n I d k (i + 1) (setE o.dst (row sz (xs ++ news)) ((tu, row sz (xs ++ news)) :: sieve E))) (hq : d = false ∨ barB ops i = true := by first | exact .inl rfl | exact .inr (by kernel_rfl)) : Plan P ops Q n I d (k + 1) i E := by
  refine .inr ⟨hq, ?_⟩
  intro a w hI hsh hS
  have hs' : ∀ x, x ∈ o.op.operands → ∀ f, opF E x = some f → f.den w (a.eval x) := fun x hx f hf => opF_den ho hx (fun t _ f hf => hS t f hf) hf
  have e1 := hfs w _ hI (hs' x (by simp [hop, Op.operands, Call.operands]) _ hx)
  have e2 := hs w _ hI (hs' y (by simp [hop, Op.operands, Call.operands]) _ hy)
  have e3 := hus w _ hI (hS tu _ hu)
  obtain ⟨v', w', hr, h2, h3, h4⟩ := run_append_same (ty := o.type) he e1 e2 h1 hlim e3
  have hI' : I w' := hG w w' _ hI h3 fun b hb => by
    obtain ⟨_, m, hm⟩ := e1
    exact (hm.lt b hb).1
  unfold wpOp
  simp only [ho, wantB_spec ho hsh (fun t _ f hf => hS t f hf) hg, if_true]
  refine .inl ?_
  unfold Oper.wp
  have hrun : (execOp a.eval o).run P w = .ok (.value v') w' := by
    simp only [execOp, hop, resolve, invoke, builtin, List.map_toArray, List.map_cons, List.map_nil, Sem.run_bind, Sem.run_pure, Result.andThen_ok, hr]
  rw [hrun]
  refine ⟨_, h, hI', hsh.put _ _, ?_⟩
  intro t f hf
  have base : ∀ t f, look ((tu, row sz (xs ++ news)) :: sieve E) t = some f → f.den w' (a.slot t) := fun t f hf => by
    simp only [look] at hf
    by_cases htu : tu = t
    · subst htu
      simp only [if_true, Option.some.injEq] at hf
      subst hf
      exact h4
    · rw [if_neg htu] at hf
      exact sieve_sat hS w' t f hf
  cases hdst : o.dst with
  | none => rw [hdst] at hf; exact base t f hf
  | some dd =>
    rw [hdst] at hf
    simp only [setE, look] at hf
    by_cases hdt : dd = t
    · subst hdt
      simp only [if_true, Option.some.injEq] at hf
      subst hf
      rw [slot_put_same hsh (hd dd hdst).1]
      exact own_row h2
    · rw [if_neg hdt] at hf
      rw [slot_put_ne a hdt]
      exact base t f (by simpa only [look] using hf)
end
end Go.Free
end
