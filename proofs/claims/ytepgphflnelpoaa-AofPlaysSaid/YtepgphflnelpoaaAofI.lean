/-
  Laid together: AofSame, FreeBorrow, AofRewrite, FlatDeep, AofOp, DiskCrash, AofLaid, DiskRef, EvRefOp, EvRefRight, EvAwake.
-/
import Derived.Test.YtepgphflnelpoaaAofH

section
set_option linter.unusedSimpArgs false
set_option linter.unusedVariables false
set_option maxRecDepth 20000
namespace Go.Proofs.Ytepgphflnelpoaa
open Go.Free Go.RowKit Go.Proofs
set_option maxHeartbeats 4000000

theorem formedEv (zs : Array Value) (h : zs.size = kdsEvent.length) : (Value.agg zs).formed Try.prog 48 = true := by
  have hc : Try.prog.cellsOf 48 = 26 := by kernel_rfl
  unfold Value.formed
  rw [Try.underlying48]
  simp only [hc, h]
  rfl
def saE (w0 : World) (L : List EvV) (i : Nat) : Env := [(0, old w0 (row 26 (evsC L))), (1, old w0 (row 26 (evsC L))), (12, .ex (vi L.length)), (13, .ex (vi i))]
theorem sameE_fn (L : List EvV) (hl : L.length ≤ 1000000) (hok : ∀ x ∈ L, x.okV) : Spc Try.prog 15 [row 26 (evsC L), row 26 (evsC L)] fun _ => .ex (.bool true) := by
  refine Spc.intro Try.func15 rfl (Nat.le_of_ble_eq_true rfl) fun w0 => ?_
  have hI := hIb w0
  repeat (first | refine Plan.move rfl rfl rfl rfl ?_ | refine Plan.assign rfl rfl rfl rfl ?_ | refine J.seq (J.region mixed hI (by kernel_rfl) ?_) | refine J.seq (J.seq (J.region mixed hI (by kernel_rfl) ?_)))
  refine Plan.lenRow (m := L.length) rfl rfl rfl rfl (Sub.old fun _ h => h) Try.underlying35 (by rw [evs_len]) (by decide) ?_
  repeat (refine Plan.move rfl rfl rfl rfl ?_)
  refine Plan.lenRow (m := L.length) rfl rfl rfl rfl (Sub.old fun _ h => h) Try.underlying35 (by rw [evs_len]) (by decide) ?_
  repeat ((refine Plan.ints rfl rfl rfl rfl rfl rfl ?_; (skip)))
  refine Plan.boolv (y := false) (by simp) ?_
  repeat (first | refine Plan.move rfl rfl rfl rfl ?_ | refine J.seq (J.seq (J.region mixed hI (by kernel_rfl) ?_)) | refine J.condF rfl ?_ | refine J.skip ?_)
  refine Plan.lenRow (m := L.length) rfl rfl rfl rfl (Sub.old fun _ h => h) Try.underlying35 (by rw [evs_len]) (by decide) ?_
  repeat (refine Plan.move rfl rfl rfl rfl ?_)
  refine J.block (J.loop (saE w0 L) (fun i => i ≤ L.length) (fun i => L.length - i) 0 (Nat.zero_le _) ?_ ?_)
  · repeat (first | exact Weak.nil | refine Weak.cons rfl (Sub.refl _) ?_)
  intro i hi
  repeat (first | (refine Plan.ints rfl rfl rfl rfl rfl rfl ?_; (skip)) | refine J.seq (J.region mixed hI (by kernel_rfl) ?_))
  refine J.seq (J.condD rfl (fun hc => ?_) (fun hc => ?_))
  · have hlt : i < L.length := by omega
    have hx : L[i]? = some L[i] := List.getElem?_eq_getElem hlt
    have hgd : L.getD i ev0 = L[i] := by rw [List.getD_eq_getElem?_getD, hx]; rfl
    have hki := hok _ (List.getElem_mem hlt)
    repeat (refine J.skip ?_)
    refine J.seq (J.block ?_)
    repeat (first | refine Plan.move rfl rfl rfl rfl ?_ | refine Plan.assign rfl rfl rfl rfl ?_ | refine J.seq (J.region mixed hI (by kernel_rfl) ?_))
    refine Plan.indexAddr EvV.enc 26 L ev0 rfl rfl rfl rfl (Sub.old fun _ h => h) rfl eltE encE (by omega) (by omega) ?_
    rw [Int.toNat_natCast, hgd]
    refine Plan.loadAggP rfl rfl rfl rfl (Sub.refl _) Try.underlying48 rfl (by rw [encE]; kernel_rfl) ?_
    repeat (refine Plan.move rfl rfl rfl rfl ?_)
    refine Plan.indexAddr EvV.enc 26 L ev0 rfl rfl rfl rfl (Sub.old fun _ h => h) rfl eltE encE (by omega) (by omega) ?_
    rw [Int.toNat_natCast, hgd]
    refine Plan.loadAggP rfl rfl rfl rfl (Sub.refl _) Try.underlying48 rfl (by rw [encE]; kernel_rfl) ?_
    refine Plan.eqAgg (m := 9) (l := kdsEvent) (xs := L[i].enc) (ys := L[i].enc) (r := true) (v := false) rfl rfl rfl rfl rfl (by decide) (by kernel_rfl) (by kernel_rfl) (by kernel_rfl) (enc_ok hki) (enc_ok hki) formedEv (by simp) (.inr ⟨rfl, rfl⟩) ?_
    repeat (first | refine Plan.move rfl rfl rfl rfl ?_ | (refine Plan.ints rfl rfl rfl rfl rfl rfl ?_; (refine Plan.int (i64r (by omega)) ?_)) | refine J.region mixed hI (by kernel_rfl) ?_ | refine J.condF rfl ?_ | refine J.skip ?_)
    refine Plan.int (y := ((i + 1 : Nat) : Int)) (by omega) ?_
    repeat (fail)
    exact Nrm.next (i + 1) (by omega) (by omega) (by repeat (first | exact Weak.nil | refine Weak.cons rfl (Sub.refl _) ?_))
  refine J.exit ?_
  repeat (first | refine Plan.assign rfl rfl rfl rfl ?_ | refine J.seq (J.region mixed hI (by kernel_rfl) ?_))
  exact J.ret (Nrm.ret1 rfl (fun _ h => h) rfl fun B _ => Sub.refl _)

def evK : EvV := ⟨0, 1, 0, fun _ => 0, 11, [107], [], [], 0, 0, 0⟩
theorem evK_ok : evK.okV := by refine ⟨?_, ?_, ?_, fun i _ => ?_, ?_, ?_, ?_, ?_, ?_, ?_, ?_⟩ <;> simp [evK, in64]
theorem evK_right : rightP evK := by
  refine ⟨by decide, by decide, by decide, fun i _ => by simp [evK], by decide, by decide, by decide⟩
theorem small_num {u : Nat} (h : u < 128) : num u = [UInt8.ofNat u] := by
  unfold num; rw [Nat.div_eq_of_lt h, numHi_zero, lastD, Nat.mod_eq_of_lt h]; rfl
theorem evK_enc : encB evK = [0, 1, 0, 0, 0, 0, 0, 0, 0, 0, 0, 0, 0, 0, 0, 0, 0, 0, 0, 11, 1, 107] := by
  simp [encB, encB4, encB3, encB2, encB1, fieldP, valueP, numP, refP, evK, nums, encNs, numI, txt, small_num]
theorem evK_len : (evF evK).length = 29 := by unfold evF; rw [fPut_length, evK_enc]; rfl
theorem awakeL_fn : Spc Try.prog 9 [] fun _ => .ex (.bool true) := by
  refine Spc.intro Try.func9 rfl (Nat.le_of_ble_eq_true rfl) fun w0 => ?_
  have hI := hIb w0
  have hA := Own.below w0
  have hbg := begun_fn 200
  have hc : clampR 200 = 200 := by decide
  rw [hc] at hbg
  have hadd : addM log0 [] 200 evK = (⟨[], false, [evK]⟩, evF evK, 0) := by
    unfold addM
    rw [if_pos evK_right, if_pos (by rw [evK_len]; decide)]
    rfl
  refine J.heap0 1000 (newB w0) ?_
  repeat (first | refine Plan.assign rfl rfl rfl rfl ?_ | refine J.seq (J.region mixed hI (by kernel_rfl) ?_))
  refine Plan.callN (key := 1000) rfl rfl rfl (hbg) Try.func17 rfl rfl (by intro _ e; cases e; decide) (by repeat (first | exact Opnds.nil | refine Opnds.cons rfl (by exact Sub.refl _) ?_)) rfl hA ?_
  rintro ⟨γ, β⟩ _
  repeat (first | refine Plan.move rfl rfl rfl rfl ?_ | refine Plan.assign rfl rfl rfl rfl ?_ | refine Plan.extract rfl rfl rfl rfl rfl ?_)
  refine J.open1 (key := 1000) rfl ?_
  repeat (first | refine Plan.move rfl rfl rfl rfl ?_ | refine Plan.pick rfl rfl rfl rfl rfl ?_ | refine Plan.eqlPtr rfl rfl rfl rfl (by kernel_rfl) ?_ | refine J.seq (J.seq (J.region mixed hI (by kernel_rfl) ?_)))
  refine Plan.callR (key := 1000) (B := 0) (q := 1) rfl rfl rfl (disk_Room β [] 0 200) Try.func31 rfl rfl (fun _ _ => Nat.zero_le _) (by repeat (first | exact Opnds.nil | refine Opnds.cons rfl (by exact Sub.refl _) ?_)) rfl rfl (by decide) ?_
  repeat (first | refine Plan.move rfl rfl rfl rfl ?_ | refine Plan.pick rfl rfl rfl rfl rfl ?_ | (refine Plan.ints rfl rfl rfl rfl rfl rfl ?_; (skip)) | refine J.seq (J.region mixed hI (by kernel_rfl) ?_) | refine J.condF rfl ?_ | refine J.skip ?_)
  refine Plan.build (cells := #[vi 0, vi 1]) rfl rfl (ps := [(1, _)]) rfl (Parts.cons rfl Parts.nil) (by kernel_rfl) ?_
  refine Plan.build (cells := evK.op.toArray) rfl rfl (ps := [(0, _), (1, _)]) rfl (Parts.cons rfl (Parts.cons rfl Parts.nil)) (by kernel_rfl) ?_
  refine Plan.build (cells := evK.enc.toArray) rfl rfl (ps := [(0, _), (3, _)]) rfl (Parts.cons rfl (Parts.cons rfl Parts.nil)) (by kernel_rfl) ?_
  have had := add_fn γ β log0 0 [] 0 200 evK evK_ok (by decide) (by decide) (by decide)
  rw [hadd] at had
  refine Plan.callL (key := 1000) [0, 1] [] rfl rfl rfl (had) Try.func21 rfl rfl (by intro _ e; cases e; decide) (by repeat (first | exact Opnds.nil | refine Opnds.cons rfl (by exact Sub.refl _) ?_)) rfl hA rfl rfl rfl ?_
  intro _ _
  repeat (first | refine Plan.move rfl rfl rfl rfl ?_ | refine Plan.assign rfl rfl rfl rfl ?_ | (refine Plan.ints rfl rfl rfl rfl rfl rfl ?_; (skip)) | refine J.seq (J.region mixed hI (by kernel_rfl) ?_))
  refine Plan.callR (key := 1000) (B := 0) (q := 0) rfl rfl rfl (log_Events γ β ⟨[], false, [evK]⟩ 0 (by decide)) Try.func16 rfl rfl (fun _ _ => Nat.zero_le _) (by repeat (first | exact Opnds.nil | refine Opnds.cons rfl (by exact Sub.refl _) ?_)) rfl rfl (by decide) ?_
  refine Plan.lenRow (m := 1) rfl rfl rfl rfl Sub.own Try.underlying35 (by rw [evs_len]; rfl) (by decide) ?_
  repeat (first | refine Plan.move rfl rfl rfl rfl ?_ | refine Plan.pick rfl rfl rfl rfl rfl ?_ | (refine Plan.ints rfl rfl rfl rfl rfl rfl ?_; (skip)))
  refine Plan.callR (key := 1000) (B := 0) (q := 1) rfl rfl rfl (disk_Bytes β (evF evK) 0 200 (by rw [evK_len]; decide)) Try.func13 rfl rfl (fun _ _ => Nat.zero_le _) (by repeat (first | exact Opnds.nil | refine Opnds.cons rfl (by exact Sub.refl _) ?_)) rfl rfl (by decide) ?_
  refine Plan.lenB rfl rfl rfl rfl Sub.own Try.underlying27 ?_
  rw [evK_len]
  repeat (first | refine Plan.assign rfl rfl rfl rfl ?_ | refine Plan.pick rfl rfl rfl rfl rfl ?_ | (refine Plan.ints rfl rfl rfl rfl rfl rfl ?_; (skip)))
  exact J.ret (Nrm.ret1 rfl (fun _ h => h) rfl fun B _ => Sub.refl _)
end Go.Proofs.Ytepgphflnelpoaa
end

section
set_option linter.unusedSimpArgs false
set_option linter.unusedVariables false
set_option maxRecDepth 20000
namespace Go.Free
open Go.RowKit
/-- The blocks G, as they are in w1. -/
def frozenC (w1 : World) (G : Nat → Prop) : Chunk where
  holds w S := (∀ b, S b ↔ G b) ∧ ∀ b, G b → b < w.heap.size ∧ w.heap[b]? = w1.heap[b]?
  lt w S b h hb := (h.2 b ((h.1 b).1 hb)).1
  loc w w' S h hS := ⟨h.1, fun b hb => by
    have h2 := h.2 b hb
    have h3 := hS b ((h.1 b).2 hb)
    refine ⟨?_, h3.trans h2.2⟩
    rw [Array.getElem?_eq_getElem h2.1] at h3
    exact (Array.getElem?_eq_some_iff.1 h3).1⟩
theorem Ent.thaw {w1 : World} {G : Nat → Prop} {c : Chunk} (h : c.holds w1 G) : Ent (frozenC w1 G) c := fun w S hf =>
  ⟨G, c.loc w1 w G h fun b hb => (hf.2 b hb).2, fun b hb => (hf.1 b).2 hb⟩
theorem frozen_row {w1 : World} {G : Nat → Prop} {sz : Nat} {xs : List Value} {v : Value} (h : rowH sz xs w1 v) (hG : ∀ b, b < w1.heap.size → G b) : ∀ w : World, (∀ b, G b → w.heap[b]? = w1.heap[b]?) → rowH sz xs w v := fun w hw => by
  obtain ⟨A, m, cap, e1, e2, e3, e4, e5, e6⟩ := h
  refine ⟨A, m, cap, e1, e2, e3, e4, e5, fun j u hu => ?_⟩
  obtain ⟨ad, ha, hc⟩ := e6 j u hu
  refine ⟨ad, ha, ?_⟩
  have hb : (ad.add j).block < w1.heap.size := by
    rcases Nat.lt_or_ge (ad.add j).block w1.heap.size with h | h
    · exact h
    · simp only [World.cell?, Array.getElem?_eq_none h] at hc; cases hc
  rw [← hc]
  simp only [World.cell?, hw _ (hG _ hb)]
section
variable {P : Program} {ops : Array Oper} {Q : Exit → Act → World → Prop} {n : Nat} {I : World → Prop} {k i : Nat} {E : Env} {o : Oper} {d : Bool} {A : Nat → Prop} {H : List Chunk} {key : Nat}
/-- A chunk of the heap is taken as it is now. -/
theorem J.freeze {cd : Code} {c : Chunk} (q : Nat) (hk : look E key = some (heap A H)) (hq : H[q]? = some c) (h : ∀ w1 G, c.holds w1 G → J P n I cd Q ((key, heap A (H.set q (frozenC w1 G))) :: E)) : J P n I cd Q E := fun a w h1 h2 h3 => by
  obtain ⟨φ, hL, hLA⟩ := h3 key _ hk
  have hob := hL.holds q _ hq
  have hql := (List.getElem?_eq_some_iff.1 hq).1
  refine h w (φ q) hob a w h1 h2 (heap_put h3 (φ := φ) ⟨fun p c' hp => ?_, hL.apart, fun p b hb => by rw [List.length_set]; exact hL.bound p b hb⟩ hLA)
  by_cases hpq : p = q
  · subst hpq
    rw [List.getElem?_set_self hql] at hp
    cases hp
    exact ⟨fun _ => Iff.rfl, fun b hb => ⟨c.lt w _ b hob hb, rfl⟩⟩
  · rw [List.getElem?_set_ne (Ne.symm hpq)] at hp
    exact hL.holds p c' hp
/-- A call to which memory is handed that the function itself leaves as it is. -/
theorem Plan.callFz {f : FuncId} {xs : List Operand} {ts : Array TypeId} {fs : List Fa} {Hc Hr : List Chunk} {X : Type} {ok : X → Prop} {R : X → Fa} {c' : X → List Chunk} {fn : Func} {w1 : World} {G : Nat → Prop} (qs rs : List Nat) (ho : ops[i]? = some o)
    (hop : o.op = .call { callee := .value (.func f), args := xs.toArray, argTypes := ts }) (hg : wantB ops E o = some true) (hc : SpcC P f fs (allC (Hc ++ [frozenC w1 G])) ok R (fun x => allC (c' x ++ [frozenC w1 G])))
    (hf : P.funcs[f]? = some fn) (hbody : fn.body.isNone = false) (hname : (fn.name == "runtime.NumGoroutine") = false) (hd : ∀ d, o.dst = some d → d < n)
    (hx : Opnds I E xs fs) (hk : look E key = some (heap A H)) (hA : Own I A) (hp : Free.pick H qs = Hc) (hr : Free.pick H rs = Hr) (hn : nodupB (qs ++ rs) = true)
    (hF : ∀ w, I w → ∀ b, G b → b < w.heap.size ∧ w.heap[b]? = w1.heap[b]?) (hGA : ∀ b, A b → ¬ G b)
    (h : ∀ x, ok x → Plan P ops Q n I d k (i + 1) (setE o.dst (R x) ((key, heap A (c' x ++ Hr)) :: sieve E))) (hq : d = false ∨ barB ops i = true := by first | exact .inl rfl | exact .inr (by kernel_rfl)) : Plan P ops Q n I d (k + 1) i E :=
  Plan.turn ho hg hd hk hA (fun a w φ hI hs hs' hL hLA hfr hsh => by
    unfold wpOp
    simp only [ho, wantB_spec ho hsh (fun t _ f hf => hs t f hf) hg, if_true]
    refine .inl ?_
    unfold Oper.wp
    have hrun : (execOp a.eval o).run P w = .ok (.enter f (xs.map a.eval).toArray) w := by
      have hn : ¬ fn.name = "runtime.NumGoroutine" := by simpa using hname
      have hb : ¬ fn.body = none := by intro e; rw [e] at hbody; cases hbody
      simp [execOp, hop, resolve, invoke, callFunc, Deferred.ofValue, Act.eval, hf, hb, hn]
    rw [hrun]
    simp only [Oper.upon]
    have hden := Opnds.dens (a := a) hI hx (fun x hxm f hf => hs' x (by simp [hop, Op.operands, Call.operands, hxm]) f hf)
    have hsp : Ent (allC H) (Free.sepC (allC Hc) (allC Hr)) := (Ent.pickC (qs ++ rs) (by rw [Free.pick, List.map_append]; exact (congrArg (· ++ _) hp).trans (congrArg (Hc ++ ·) hr)) hn).trans Ent.splitC
    obtain ⟨G0, hG0, hG0s⟩ := hsp w _ hL.all
    obtain ⟨Gc, Gd, hG, hdis, hcH, hdH⟩ := hG0
    have hin : ∀ b, Gc b ∨ Gd b → A b := fun b hb => by
      obtain ⟨q, hq⟩ := hG0s b ((hG b).2 hb)
      exact hLA q b hq
    have hfz : (frozenC w1 G).holds w G := ⟨fun _ => Iff.rfl, hF w hI⟩
    obtain ⟨S, hS, hSs⟩ := (Ent.joinC (H1 := Hc) (H2 := [frozenC w1 G])) w (fun b => Gc b ∨ G b) ⟨Gc, G, fun _ => Iff.rfl, fun b hb => hGA b (hin b (.inl hb)), hcH,
      ⟨G, fun _ => False, fun b => ⟨.inl, fun e => e.elim id fun x => x.elim⟩, fun _ _ e => e, hfz, fun _ e => e⟩⟩
    refine (hc w _ S hden hS).mono ?_
    rintro e w' ⟨v, x, rfl, hok, hK, hR, F', hF', hFb⟩
    obtain ⟨S2, hS2, hS2s⟩ := (Ent.splitC (H1 := c' x) (H2 := [frozenC w1 G])) w' F' hF'
    obtain ⟨Gx, Gf, g1, g2, g3, g4⟩ := hS2
    obtain ⟨Ga, Gb, k1, _, k3, _⟩ := g4
    have hGx : ∀ b, Gx b → Gc b ∨ w.heap.size ≤ b := fun b hb => by
      rcases hFb b (hS2s b ((g1 b).2 (.inl hb))) with h1 | h1
      · rcases hSs b h1 with h2 | h2
        · exact .inl h2
        · exact absurd ((k1 b).2 (.inl ((k3.1 b).2 h2))) (g2 b hb)
      · exact .inr h1
    have hK' : Kept Gc w w' := ⟨hK.os, hK.tape, hK.output, hK.size, fun b hb hn => by
      by_cases hGb : G b
      · rw [(k3.2 b hGb).2, (hfz.2 b hGb).2]
      · exact hK.block b hb fun e => (hSs b e).elim hn hGb⟩
    have hdH' : (allC Hr).holds w' Gd := (allC Hr).keep hdH hK' (fun b hb hc => hdis b hc hb)
    obtain ⟨G2, hG2, hG2s⟩ := (Ent.joinC (H1 := c' x) (H2 := Hr)) w' (fun b => Gx b ∨ Gd b) ⟨Gx, Gd, fun b => Iff.rfl, fun b hb hb2 => by
      rcases hGx b hb with h1 | h1
      · exact hdis b h1 hb2
      · have := (allC Hr).lt w Gd b hdH hb2; omega, g3, hdH'⟩
    obtain ⟨φ', hL', hφ'⟩ := Lies.ofAll hG2
    refine ⟨v, R x, c' x ++ Hr, φ', rfl, hK'.mono (fun b _ hb => hin b (.inl hb)), hL', fun q b hb => ?_, hR, h x hok⟩
    rcases hG2s b (hφ' q b hb) with h1 | h1
    · rcases hGx b h1 with h2 | h2
      · exact hin b (.inl h2)
      · exact hfr b h2
    · exact hin b (.inr h1)) hq
theorem Plan.appendFullStrS {x y : Operand} {t u e : TypeId} {xs : List Value} {p : List UInt8} {f : Fa} (ho : ops[i]? = some o) (hop : o.op = .call { callee := .builtin .append, args := #[x, y], argTypes := #[t, u] })
    (hg : wantB ops E o = some true) (hx : opF E x = some f) (hfs : Sub I f (fullF xs)) (hy : opF E y = some (.ex (str p))) (hu : P.underlying u = some .string) (he : Elt P t e (.int .u8 0) 1 1) (hlim : xs.length + p.length ≤ 140737488355328)
    (h : Plan P ops Q n I d k (i + 1) (setE o.dst (row 1 (xs ++ bs p)) E)) : Plan P ops Q n I d (k + 1) i E :=
  Plan.step ho (Step.run ho hg fun a w hI hs' => by
    obtain ⟨A, m, e1, hrow⟩ := hfs w _ hI (hs' x (by simp [hop, Op.operands, Call.operands]) _ hx)
    have e2 := hs' y (by simp [hop, Op.operands, Call.operands]) _ hy
    simp only [Fa.den, str] at e2
    rw [e1] at hrow
    obtain ⟨v', w', hr, h2, h3⟩ := run_append_full_string (P := P) (ty := o.type) he hu hrow hlim
    refine ⟨v', w', ?_, h3, h2⟩
    simp only [execOp, hop, resolve, invoke, builtin, List.map_toArray, List.map_cons, List.map_nil, Sem.run_bind, Sem.run_pure, Result.andThen_ok, e1, e2, hr]) h
theorem Sub.tightFull {I : World → Prop} {B e m : Nat} {cs : List Value} : Sub I (tight B e 1 m cs) (fullF cs) := fun w v _ ⟨h, g, hv⟩ => ⟨_, _, hv, own_row h⟩
end
end Go.Free
end

section
set_option linter.unusedSimpArgs false
set_option linter.unusedVariables false
set_option maxRecDepth 20000
namespace Go.Proofs.Ytepgphflnelpoaa
open Go.Free Go.RowKit Go.Proofs
set_option maxHeartbeats 4000000

def okAll (L : List EvV) : Bool := L.all fun e => decide (rightP e)
theorem okAll_iff {L : List EvV} : okAll L = true ↔ ∀ e ∈ L, rightP e := by simp [okAll]
def rwB (s : List UInt8) (L : List EvV) : List UInt8 := fPut (1 :: s) ++ L.flatMap evF
def rwM (m : LogV) (f : Nat) (l : List UInt8) (df r : Nat) (s : List UInt8) (L : List EvV) : (LogV × Nat) × (List UInt8 × Nat) × Nat :=
  if 65528 < s.length then ((m, f), (l, df), 4) else if okAll L = false then ((m, f), (l, df), 1)
  else if (rwB s L).length ≤ r then ((⟨s, true, L⟩, L.length), (rwB s L, (rwB s L).length), 0) else ((m, f), (l, df), 9)
theorem evFs_le {L : List EvV} (h : ∀ e ∈ L, rightP e) : (L.flatMap evF).length ≤ 707 * L.length := by
  induction L with
  | nil => simp
  | cons e r ih =>
    have h1 := evF_le (h e List.mem_cons_self)
    have h2 := ih fun x hx => h x (List.mem_cons_of_mem _ hx)
    rw [List.flatMap_cons, List.length_append, List.length_cons]; omega
theorem rwB_le {s : List UInt8} {L : List EvV} (hs : s.length ≤ 65528) (h : ∀ e ∈ L, rightP e) : (rwB s L).length ≤ 65535 + 707 * L.length := by
  have := evFs_le h
  unfold rwB; rw [List.length_append, fPut_length, List.length_cons]; omega
theorem log_closeL {γ β f cap : Nat} {m : LogV} {B : Option Addr} {Ds : List Chunk} : Ent (allC (obj γ [ptr β, str m.s, .bool m.b, .slice B m.l.length cap, vi f] :: rowEv B m.l.length cap (evsC m.l) :: Ds)) (allC (logC γ β m f :: Ds)) :=
  (Ent.splitC (H1 := [_, _])).trans (Ent.sep log_close (Ent.refl _))
def rwE (F G' : Nat → Prop) (w0 : World) (γ β : Nat) (m : LogV) (f : Nat) (l : List UInt8) (df r : Nat) (s : List UInt8) (L : List EvV) (v : Value) (x : Option Addr × Nat) (i : Nat) (B : Option Addr) (cap : Nat) : Env :=
  [(0, .ex (ptr γ)), (1, .ex (str s)), (2, .ex v), (7, .ex (.slice B (rwB s (L.take i)).length cap)), (35, .ex v), (36, .ex (vi L.length)), (37, .ex (vi i)),
   (1000, heap (fun b => (F b ∨ w0.heap.size ≤ b) ∧ ¬ G' b) [obj γ [ptr β, str m.s, .bool m.b, .slice x.1 m.l.length x.2, vi f], diskC β l df r, rowEv x.1 m.l.length x.2 (evsC m.l), rowB B cap (rwB s (L.take i))])]
theorem rewrite_fn (γ β : Nat) (m : LogV) (f : Nat) (l : List UInt8) (df r : Nat) (s : List UInt8) (L : List EvV) (v : Value) (w1 : World) (G : Nat → Prop)
    (hrow : ∀ w : World, (∀ b, G b → w.heap[b]? = w1.heap[b]?) → rowH 26 (evsC L) w v) (hr : r ≤ 65536) (hL : L.length ≤ 1000) (hok : ∀ e ∈ L, e.okV) :
    SpcC Try.prog 18 [.ex (ptr γ), .ex (str s), .ex v] (allC [logC γ β m f, diskC β l df r, frozenC w1 G]) (fun _ : Unit => True) (fun _ => .ex (vi (rwM m f l df r s L).2.2))
      (fun _ => allC [logC γ β (rwM m f l df r s L).1.1 (rwM m f l df r s L).1.2, diskC β (rwM m f l df r s L).2.1.1 (rwM m f l df r s L).2.1.2 r, frozenC w1 G]) := by
  refine SpcC.intro Try.func18 rfl (Nat.le_of_ble_eq_true rfl) fun w0 F => ?_
  have hI0 := kept_below F w0
  have hA0 := Own.kept F w0
  refine J.open1 (key := 1000) rfl ?_
  refine J.exC (key := 1000) (q := 0) rfl rfl fun x => ?_
  refine J.sepC (key := 1000) (q := 0) rfl rfl ?_
  refine J.frameC (key := 1000) 2 rfl rfl fun G' hG' => ?_
  have hI1 := framedC_I (c := frozenC w1 G) (F := G') hI0
  have hA1 := framedC_own (c := frozenC w1 G) (F := G') hA0
  have hI := hI1
  have hA := hA1
  have hsub : Sub (framedC (fun w => Kept F w0 w) (frozenC w1 G) G') (.ex v) (row 26 (evsC L)) := fun w y hw hy => by
    simp only [Fa.den] at hy
    subst hy
    exact hrow w fun b hb => (hw.2.2 b hb).2
  repeat (first | refine Plan.assign rfl rfl rfl rfl ?_ | refine J.seq (J.region mixed hI (by kernel_rfl) ?_))
  refine J.seq (J.block ?_)
  repeat (first | refine Plan.move rfl rfl rfl rfl ?_ | refine Plan.assign rfl rfl rfl rfl ?_ | refine Plan.pick rfl rfl rfl rfl rfl ?_ | refine Plan.lenStr rfl rfl rfl rfl Try.underlying9 ?_ | (refine Plan.ints rfl rfl rfl rfl rfl rfl ?_; (skip)) | refine Plan.nilOk rfl rfl rfl rfl ?_ | refine Plan.fieldC rfl rfl rfl rfl (by first | exact Try.underlying74 | exact Try.underlying55) rfl (by kernel_rfl) (by exact (rfl : _ = 0)) ?_ | refine Plan.loadC (key := 1000) (q := 0) rfl rfl rfl rfl rfl rfl (obj_reads1 rfl) (by first | exact Try.underlying3 | exact Try.underlying23) (by rfl) (by decide) ?_ | refine Plan.eqlPtr rfl rfl rfl rfl (by kernel_rfl) ?_ | refine J.seq (J.region mixed hI (by kernel_rfl) ?_) | refine J.condF rfl ?_)
  refine J.condD rfl (fun hc => ?_) (fun hc => ?_)
  · have he : rwM m f l df r s L = ((m, f), (l, df), 4) := by unfold rwM; rw [if_pos (by omega)]
    rw [he]
    repeat (first | refine Plan.assign rfl rfl rfl rfl ?_ | refine J.seq (J.region mixed hI (by kernel_rfl) ?_))
    refine J.unframeC (key := 1000) hG' rfl ?_
    exact J.ret (Nrm.retC1 (key := 1000) () rfl rfl rfl trivial (Sub.refl _) ((Ent.pickC (H' := [obj γ [ptr β, str m.s, .bool m.b, .slice x.1 m.l.length x.2, vi f], rowEv x.1 m.l.length x.2 (evsC m.l), diskC β l df r, frozenC w1 G]) [0, 2, 1, 3] rfl rfl).trans log_closeL))
  have hs : s.length ≤ 65528 := by omega
  refine J.skip ?_
  refine J.fresh (key := 1000) rfl hA fun B hBA => ?_
  have hI := hFresh (B := B) hI1
  have hA := own_fresh (B := B) hA1
  have hput := frame_Put (1 :: s) (by simp only [List.length_cons]; omega)
  rw [if_neg (by simp only [List.length_cons]; omega), if_neg (by simp only [List.length_cons]; omega)] at hput
  refine J.seq (J.region mixed hI (by kernel_rfl) ?_)
  refine Plan.litTight (B := B) (m := 1) (vs := [.int .u8 1]) rfl rfl rfl eltB rfl (fun _ h => h.2) rfl (by simp [Value.cells]) (by decide) ?_
  repeat (refine Plan.move rfl rfl rfl rfl ?_)
  refine Plan.appendFullStrS rfl rfl rfl rfl Sub.tightFull rfl Try.underlying9 eltB (by simp [flat, Value.cells]; omega) ?_
  have hb : flat [Value.int .u8 1] ++ bs s = bs (1 :: s) := rfl
  rw [hb]
  refine Plan.call (B := B) rfl rfl rfl hput Try.func38 rfl rfl (fun _ h => h.2) (by repeat (first | exact Opnds.nil | refine Opnds.cons rfl (by exact Sub.refl _) ?_)) ?_
  repeat (first | refine Plan.move rfl rfl rfl rfl ?_ | refine Plan.assign rfl rfl rfl rfl ?_ | refine Plan.extract rfl rfl rfl rfl rfl ?_)
  refine J.takeC (t := 7) (key := 1000) (B := B) rfl (Sub.refl _) rfl hBA fun b7 m7 c7 hm7 => ?_
  obtain rfl : m7 = (fPut (1 :: s)).length := by rw [bs_length] at hm7; omega
  refine J.idle (I' := framedC (fun w => Kept F w0 w) (frozenC w1 G) G') (fun w h => h.1) ?_
  clear hI hA
  have hI := hI1
  have hA := hA1
  repeat (first | refine Plan.move rfl rfl rfl rfl ?_ | refine J.seq (J.seq (J.region mixed hI (by kernel_rfl) ?_)))
  refine Plan.lenRow (m := L.length) rfl rfl rfl rfl hsub Try.underlying35 (by rw [evs_len]) (by decide) ?_
  repeat (refine Plan.move rfl rfl rfl rfl ?_)
  refine J.block (J.loop (fun t : Nat × Option Addr × Nat => rwE F G' w0 γ β m f l df r s L v x t.1 t.2.1 t.2.2) (fun t : Nat × Option Addr × Nat => t.1 ≤ L.length ∧ ∀ e ∈ L.take t.1, rightP e) (fun t => L.length - t.1) (0, b7, c7) ⟨Nat.zero_le _, fun e he => by simp at he⟩ ?_ ?_)
  · have h0 : rwB s (L.take 0) = fPut (1 :: s) := by simp [rwB]
    dsimp only
    rw [rwE, h0]
    repeat (first | exact Weak.nil | refine Weak.cons rfl (Sub.refl _) ?_)
  rintro ⟨i, Bb, cap⟩ ⟨hi, hri⟩
  dsimp only at hi hri
  change J _ _ _ _ _ (rwE F G' w0 γ β m f l df r s L v x i Bb cap)
  have hbl := rwB_le hs hri
  rw [List.length_take, Nat.min_eq_left hi] at hbl
  repeat (first | (refine Plan.ints rfl rfl rfl rfl rfl rfl ?_; (skip)) | refine J.seq (J.region mixed hI (by kernel_rfl) ?_))
  refine J.seq (J.condD rfl (fun hc => ?_) (fun hc => ?_))
  · have hlt : i < L.length := by omega
    have hx : L[i]? = some L[i] := List.getElem?_eq_getElem hlt
    obtain ⟨e, hee⟩ : ∃ e, e = L[i] := ⟨_, rfl⟩
    have hgd : L.getD i ev0 = e := by rw [hee, List.getD_eq_getElem?_getD, hx]; rfl
    have heM : e ∈ L := hee ▸ List.getElem_mem hlt
    have heo := hok e heM
    have hfr := framed_fn e heo
    have htk : L.take (i + 1) = L.take i ++ [e] := by rw [hee]; exact List.take_succ_eq_append_getElem hlt
    repeat (refine J.skip ?_)
    refine J.seq (J.block ?_)
    repeat (refine J.seq (J.region mixed hI (by kernel_rfl) ?_))
    refine Plan.indexAddr EvV.enc 26 L ev0 rfl rfl rfl rfl hsub rfl eltE encE (by omega) (by omega) ?_
    rw [Int.toNat_natCast, hgd]
    refine Plan.loadAggP rfl rfl rfl rfl (Sub.refl _) Try.underlying48 rfl (by rw [encE]; kernel_rfl) ?_
    refine Plan.allocC (key := 1000) (z := .agg ev0.enc.toArray) rfl rfl rfl (by intro _ e; cases e; decide) (by kernel_rfl) rfl hA fun ξ => ?_
    refine Plan.storeC (key := 1000) (q := 4) (off := 0) rfl rfl rfl rfl rfl rfl (encE_one e) (by show _ = some e.enc.toArray.size; kernel_rfl) rfl hA rfl (obj_pat (Nat.le_of_ble_eq_true rfl)) ?_
    repeat (refine J.seq (J.region mixed hI (by kernel_rfl) ?_))
    refine Plan.loadAggC (key := 1000) (q := 4) (vs := e.enc) rfl rfl rfl rfl rfl rfl obj_whole Try.underlying48 rfl (by rw [encE]; kernel_rfl) (by decide) ?_
    by_cases hp : rightP e
    · have hel := evF_le hp
      rw [if_pos hp, if_pos hp] at hfr
      refine Plan.call (B := 0) rfl rfl rfl (hfr) Try.func39 rfl rfl (fun _ _ => Nat.zero_le _) (by repeat (first | exact Opnds.nil | refine Opnds.cons rfl (by exact Sub.refl _) ?_)) ?_
      repeat (first | refine Plan.move rfl rfl rfl rfl ?_ | refine Plan.assign rfl rfl rfl rfl ?_ | refine Plan.extract rfl rfl rfl rfl rfl ?_ | (refine Plan.ints rfl rfl rfl rfl rfl rfl ?_; (skip)) | refine J.region mixed hI (by kernel_rfl) ?_ | refine J.seq (J.seq (J.region mixed hI (by kernel_rfl) ?_)) | refine J.condF rfl ?_ | refine J.skip ?_)
      refine Plan.appendC (key := 1000) (q := 3) (news := bs (evF e)) rfl rfl rfl rfl rfl Sub.own eltB (by intro _ e; cases e; decide) rfl hA rfl (bs_one _) (by simp only [bs_length]; omega) fun B2 m2 c2 hm2 => ?_
      have hnx : rwB s (L.take i) ++ evF e = rwB s (L.take (i + 1)) := by rw [htk]; simp [rwB]
      rw [← bs_append, hnx]
      obtain rfl : m2 = (rwB s (L.take (i + 1))).length := by rw [← hnx, List.length_append]; simp only [bs_length] at hm2; omega
      repeat (first | refine Plan.move rfl rfl rfl rfl ?_ | refine Plan.assign rfl rfl rfl rfl ?_ | (refine Plan.ints rfl rfl rfl rfl rfl rfl ?_; (refine Plan.int (i64r (by omega)) ?_)) | refine J.region mixed hI (by kernel_rfl) ?_)
      refine Plan.int (y := ((i + 1 : Nat) : Int)) (by omega) ?_
      repeat (fail)
      refine Plan.regroup [obj γ [ptr β, str m.s, .bool m.b, .slice x.1 m.l.length x.2, vi f], diskC β l df r, rowEv x.1 m.l.length x.2 (evsC m.l), rowB B2 c2 (rwB s (L.take (i + 1)))] (by kernel_rfl) hI (key := 1000) rfl (Ent.pickC [0, 1, 2, 3] rfl rfl) ?_
      refine Nrm.next (i + 1, B2, c2) ⟨hlt, fun y hy => ?_⟩ (by dsimp only; omega) (by repeat (first | exact Weak.nil | refine Weak.cons rfl (Sub.refl _) ?_))
      rw [htk] at hy
      rcases List.mem_append.1 hy with hy | hy
      · exact hri y hy
      · rw [List.mem_singleton.1 hy]; exact hp
    · have hno : okAll L = false := by
        cases h : okAll L with
        | false => rfl
        | true => exact absurd (okAll_iff.1 h e heM) hp
      have he : rwM m f l df r s L = ((m, f), (l, df), 1) := by unfold rwM; rw [if_neg (by omega), if_pos hno]
      rw [he]
      rw [if_neg hp, if_neg hp] at hfr
      refine Plan.call (B := 0) rfl rfl rfl (hfr) Try.func39 rfl rfl (fun _ _ => Nat.zero_le _) (by repeat (first | exact Opnds.nil | refine Opnds.cons rfl (by exact Sub.refl _) ?_)) ?_
      repeat (first | refine Plan.move rfl rfl rfl rfl ?_ | refine Plan.assign rfl rfl rfl rfl ?_ | refine Plan.extract rfl rfl rfl rfl rfl ?_ | (refine Plan.ints rfl rfl rfl rfl rfl rfl ?_; (skip)) | refine J.seq (J.region mixed hI (by kernel_rfl) ?_) | refine J.seq (J.seq (J.region mixed hI (by kernel_rfl) ?_)) | refine J.condT rfl ?_)
      refine J.unframeC (key := 1000) hG' rfl ?_
      exact J.ret (Nrm.retC1 (key := 1000) () rfl rfl rfl trivial (Sub.refl _) ((Ent.pickC (H' := [obj γ [ptr β, str m.s, .bool m.b, .slice x.1 m.l.length x.2, vi f], rowEv x.1 m.l.length x.2 (evsC m.l), diskC β l df r, frozenC w1 G]) [0, 2, 1, 5] rfl rfl).trans log_closeL))
  · have hie : i = L.length := by omega
    subst hie
    rw [List.take_length] at hri hbl
    have hyes : okAll L = true := okAll_iff.2 hri
    refine J.exit ?_
    rw [rwE, List.take_length]
    have hre := disk_Replace β l df r (rwB s L) hr (by omega)
    repeat (first | refine Plan.move rfl rfl rfl rfl ?_ | refine Plan.nilOk rfl rfl rfl rfl ?_ | refine Plan.fieldC rfl rfl rfl rfl (by first | exact Try.underlying74 | exact Try.underlying55) rfl (by kernel_rfl) (by exact (rfl : _ = 0)) ?_ | refine Plan.loadC (key := 1000) (q := 0) rfl rfl rfl rfl rfl rfl (obj_reads1 rfl) (by first | exact Try.underlying3 | exact Try.underlying23) (by rfl) (by decide) ?_ | refine J.seq (J.seq (J.region mixed hI (by kernel_rfl) ?_)))
    refine Plan.seeC (t := 57) (key := 1000) (q := 3) (by kernel_rfl) hI rfl rfl rfl (fun w F h => row_rowH h) ?_
    by_cases hfit : (rwB s L).length ≤ r
    · have he : rwM m f l df r s L = ((⟨s, true, L⟩, L.length), (rwB s L, (rwB s L).length), 0) := by unfold rwM; rw [if_neg (by omega), if_neg (by rw [hyes]; decide), if_pos hfit]
      rw [he]
      rw [if_pos hfit] at hre
      simp only [if_pos hfit] at hre
      refine Plan.callC (key := 1000) (q := 1) rfl rfl rfl (hre) Try.func11 rfl rfl (by intro _ e; cases e; decide) (by repeat (first | exact Opnds.nil | refine Opnds.cons rfl (by exact Sub.refl _) ?_)) rfl hA rfl ?_
      intro _ _
      repeat (first | refine Plan.move rfl rfl rfl rfl ?_ | refine Plan.assign rfl rfl rfl rfl ?_ | (refine Plan.ints rfl rfl rfl rfl rfl rfl ?_; (skip)) | refine Plan.nilOk rfl rfl rfl rfl ?_ | refine Plan.fieldC rfl rfl rfl rfl (by first | exact Try.underlying74 | exact Try.underlying55) rfl (by kernel_rfl) (by exact (rfl : _ = 1)) ?_ | refine J.seq (J.region mixed hI (by kernel_rfl) ?_) | refine J.condF rfl ?_ | refine J.skip ?_)
      refine Plan.storeC (key := 1000) (q := 0) rfl rfl rfl rfl rfl rfl (by simp [Value.cells, Value.oneCell', str]) (by kernel_rfl) rfl hA rfl (obj_pat1 (Nat.le_of_ble_eq_true rfl)) ?_
      repeat (first | refine Plan.nilOk rfl rfl rfl rfl ?_ | refine Plan.fieldC rfl rfl rfl rfl (by first | exact Try.underlying74 | exact Try.underlying55) rfl (by kernel_rfl) (by exact (rfl : _ = 2)) ?_)
      refine Plan.storeC (key := 1000) (q := 0) rfl rfl rfl rfl rfl rfl (by simp [Value.cells, Value.oneCell', str]) (by kernel_rfl) rfl hA rfl (obj_pat1 (Nat.le_of_ble_eq_true rfl)) ?_
      repeat (first | refine Plan.move rfl rfl rfl rfl ?_ | refine J.seq (J.region mixed hI (by kernel_rfl) ?_))
      refine Plan.callO (key := 1000) rfl rfl rfl (evs_Clone L (by omega)) (fun _ => rfl) Try.func37 rfl rfl (by intro _ e; cases e; decide) (Opnds.cons rfl hsub Opnds.nil) rfl hA fun B2 m2 c2 hm2 => ?_
      obtain rfl : m2 = L.length := by rw [evs_len] at hm2; omega
      repeat (first | refine Plan.nilOk rfl rfl rfl rfl ?_ | refine Plan.fieldC rfl rfl rfl rfl (by first | exact Try.underlying74 | exact Try.underlying55) rfl (by kernel_rfl) (by exact (rfl : _ = 3)) ?_)
      refine Plan.storeC (key := 1000) (q := 0) rfl rfl rfl rfl rfl rfl (by simp [Value.cells, Value.oneCell', str]) (by kernel_rfl) rfl hA rfl (obj_pat1 (Nat.le_of_ble_eq_true rfl)) ?_
      repeat (first | refine Plan.move rfl rfl rfl rfl ?_ | refine J.seq (J.region mixed hI (by kernel_rfl) ?_))
      refine Plan.lenRow (m := L.length) rfl rfl rfl rfl hsub Try.underlying35 (by rw [evs_len]) (by decide) ?_
      repeat (first | refine Plan.nilOk rfl rfl rfl rfl ?_ | refine Plan.fieldC rfl rfl rfl rfl (by first | exact Try.underlying74 | exact Try.underlying55) rfl (by kernel_rfl) (by exact (rfl : _ = 4)) ?_)
      refine Plan.storeC (key := 1000) (q := 0) rfl rfl rfl rfl rfl rfl (by simp [Value.cells, Value.oneCell', str]) (by kernel_rfl) rfl hA rfl (obj_pat1 (Nat.le_of_ble_eq_true rfl)) ?_
      repeat (first | refine Plan.assign rfl rfl rfl rfl ?_ | refine J.seq (J.region mixed hI (by kernel_rfl) ?_))
      refine J.unframeC (key := 1000) hG' rfl ?_
      exact J.ret (Nrm.retC1 (key := 1000) () rfl rfl rfl trivial (Sub.refl _) ((Ent.pickC (H' := [obj γ [ptr β, str s, .bool true, .slice B2 L.length c2, vi L.length], rowEv B2 L.length c2 (evsC L), diskC β (rwB s L) (rwB s L).length r, frozenC w1 G]) [0, 4, 1, 5] rfl rfl).trans (log_closeL (m := ⟨s, true, L⟩))))
    · have he : rwM m f l df r s L = ((m, f), (l, df), 9) := by unfold rwM; rw [if_neg (by omega), if_neg (by rw [hyes]; decide), if_neg hfit]
      rw [he]
      rw [if_neg hfit] at hre
      simp only [if_neg hfit] at hre
      refine Plan.callC (key := 1000) (q := 1) rfl rfl rfl (hre) Try.func11 rfl rfl (by intro _ e; cases e; decide) (by repeat (first | exact Opnds.nil | refine Opnds.cons rfl (by exact Sub.refl _) ?_)) rfl hA rfl ?_
      intro _ _
      repeat (first | refine Plan.move rfl rfl rfl rfl ?_ | refine Plan.assign rfl rfl rfl rfl ?_ | (refine Plan.ints rfl rfl rfl rfl rfl rfl ?_; (skip)) | refine J.seq (J.region mixed hI (by kernel_rfl) ?_) | refine J.condT rfl ?_)
      refine J.unframeC (key := 1000) hG' rfl ?_
      exact J.ret (Nrm.retC1 (key := 1000) () rfl rfl rfl trivial (Sub.refl _) ((Ent.pickC (H' := [obj γ [ptr β, str m.s, .bool m.b, .slice x.1 m.l.length x.2, vi f], rowEv x.1 m.l.length x.2 (evsC m.l), diskC β l df r, frozenC w1 G]) [0, 2, 1, 4] rfl rfl).trans log_closeL))
end Go.Proofs.Ytepgphflnelpoaa
end

section
set_option linter.unusedSimpArgs false
set_option linter.unusedVariables false
set_option maxRecDepth 20000
namespace Go.Free
open Go.RowKit
inductive Kn where
  | flat (k : Kd)
  | rows (l : List Kd)
def Kn.ok (w : World) : Kn → Value → Prop
  | .flat k, v => k.ok v
  | .rows l, v => ∃ A len cap, ∃ ls : List (List Value), v = .slice A len cap ∧ ls.length = len ∧ len ≤ 9223372036854775807 ∧ (∀ c ∈ ls, CellsOk l c) ∧ rowH l.length ls.flatten w v
def CellsIn (w : World) : List Kn → List Value → Prop
  | [], cs => cs = []
  | k :: r, cs => ∃ v r', cs = v :: r' ∧ k.ok w v ∧ CellsIn w r r'
theorem CellsIn.append {w : World} : ∀ {k1 k2 : List Kn} {c1 c2 : List Value}, CellsIn w k1 c1 → CellsIn w k2 c2 → CellsIn w (k1 ++ k2) (c1 ++ c2)
  | [], _, _, _, h1, h2 => by simp only [CellsIn] at h1; subst h1; exact h2
  | k :: r, k2, _, c2, ⟨v, r', h1, h3, h4⟩, h2 => by subst h1; exact ⟨v, r' ++ c2, rfl, h3, CellsIn.append h4 h2⟩
theorem CellsIn.length {w : World} : ∀ {k : List Kn} {c : List Value}, CellsIn w k c → c.length = k.length
  | [], _, h => by simp only [CellsIn] at h; subst h; rfl
  | k :: r, _, ⟨v, r', h1, _, h4⟩ => by subst h1; simp [CellsIn.length h4]
theorem CellsIn.ofOk {w : World} : ∀ {k : List Kd} {c : List Value}, CellsOk k c → CellsIn w (k.map .flat) c
  | [], _, h => h
  | _ :: r, _, ⟨v, r', h1, h2, h4⟩ => ⟨v, r', h1, h2, CellsIn.ofOk (k := r) h4⟩
theorem CellsIn.flats {w : World} : ∀ {k : List Kd} {r : List Kn} {c : List Value}, CellsIn w (k.map .flat ++ r) c → ∃ c1 c2, c = c1 ++ c2 ∧ CellsOk k c1 ∧ CellsIn w r c2
  | [], _, c, h => ⟨[], c, rfl, rfl, h⟩
  | _ :: k, r, _, ⟨v, r', h1, h2, h4⟩ => by
    obtain ⟨c1, c2, rfl, h5, h6⟩ := CellsIn.flats (k := k) h4
    exact ⟨v :: c1, c2, h1, ⟨v, c1, rfl, h2, h5⟩, h6⟩
/-- What a field of type t is. -/
def deepF (P : Program) (n : Nat) (t : TypeId) : Option (List Kn) :=
  match flatT P n t with
  | some l => some (l.map .flat)
  | none => match P.underlying t with
    | some (.slice e) => match flatT P n e with
      | some l => if P.cellsOf e = l.length then some [.rows l] else none
      | none => none
    | _ => none
def deepFs (P : Program) (g : TypeId → Option (List Kn)) : List Field → Nat → Option (List Kn)
  | [], _ => some []
  | f :: fs, acc =>
    match g f.type with
    | none => none
    | some a => if f.offset = acc ∧ a.length = P.cellsOf f.type then (deepFs P g fs (acc + a.length)).map (a ++ ·) else none
def deepT (P : Program) (n : Nat) (t : TypeId) : Option (List Kn) :=
  match P.underlying t with
  | some (.struct fs) => match deepFs P (deepF P n) fs.toList 0 with | some l => if l.length = P.cellsOf t then some l else none | none => none
  | _ => none
section
variable {H : Type} {enc : TypeId × Value → H} {P : Program} {w : World} {base : Nat} {spare : Nat → Bool} {held : Bool}
theorem deepFs_ok {g : TypeId → Option (List Kn)} {m : Nat} {cs : List Value} (hg : ∀ t l cs x, g t = some l → DataW.trod enc P w base spare held m t cs = some x → CellsIn w l cs) :
    ∀ (fs : List Field) (acc : Nat) (l : List Kn), deepFs P g fs acc = some l → acc + l.length ≤ cs.length → (∀ f ∈ fs, ∃ x, DataW.trod enc P w base spare held m f.type ((cs.drop f.offset).take (P.cellsOf f.type)) = some x) →
      CellsIn w l ((cs.drop acc).take l.length)
  | [], acc, l, h, _, _ => by simp only [deepFs, Option.some.injEq] at h; subst h; simp [CellsIn]
  | f :: fs, acc, l, h, hl, hf => by
    simp only [deepFs] at h
    cases hga : g f.type with
    | none => rw [hga] at h; cases h
    | some a =>
      rw [hga] at h
      simp only at h
      split at h
      · rename_i hc
        cases hr : deepFs P g fs (acc + a.length) with
        | none => rw [hr] at h; cases h
        | some b =>
          rw [hr] at h
          simp only [Option.map_some, Option.some.injEq] at h
          subst h
          obtain ⟨x, hx⟩ := hf f List.mem_cons_self
          have h1 := hg _ _ _ _ hga hx
          rw [hc.1, ← hc.2] at h1
          rw [List.length_append] at hl ⊢
          have h2 := deepFs_ok hg fs _ b hr (by omega) (fun f' hf' => hf f' (List.mem_cons_of_mem _ hf'))
          rw [List.take_add, List.drop_drop]
          exact h1.append h2
      · cases h
theorem any_row {t e : TypeId} {len cap sz : Nat} {A : Option Addr} {d : DataW H} {ps : List MemPlace} {Ok : List Value → Prop} (ht : P.underlying t = some (.slice e)) (hsz : P.cellsOf e = sz) (hlen : ∀ c, Ok c → c.length = sz)
    (hok : ∀ m cs x, DataW.trod enc P w base spare held m e cs = some x → Ok cs)
    (h : DataW.Trod enc P w base spare held t (.slice A len cap) d ps) : ∃ ls : List (List Value), ls.length = len ∧ len ≤ 9223372036854775807 ∧ (∀ c ∈ ls, Ok c) ∧ rowH sz ls.flatten w (.slice A len cap) := by
  obtain ⟨fuel, hf⟩ := h
  have hmm : maxLen = 9223372036854775807 := rfl
  rcases DataW.trod_slice ht hf with ⟨hcs, _⟩ | ⟨x, ln, cp, elems, rest, m, _, hcs, _, hb, h1, h2, h3, h4, _, _⟩
  · simp [Value.cells] at hcs
    obtain ⟨rfl, rfl, rfl⟩ := hcs
    exact ⟨[], rfl, by omega, by simp, none, 0, 0, rfl, by omega, by omega, by simp, fun _ => rfl, fun j u hu => by simp at hu⟩
  · simp [Value.cells] at hcs
    obtain ⟨rfl, rfl, rfl⟩ := hcs
    have each : ∀ i, i < len → ∃ c, Ok c ∧ ∀ j u, c[j]? = some u → w.cell? (x.add (i * sz + j)) = some u := fun i hi => by
      have := h4 i hi
      rw [List.getElem?_eq_getElem (by omega), Option.bind_eq_some_iff, hsz] at this
      obtain ⟨c, hc, hc2⟩ := this
      obtain ⟨_, hcl, hcc⟩ := World.cells?_some hc
      refine ⟨c, hok m _ _ hc2, fun j u hu => ?_⟩
      have hj : j < c.length := (List.getElem?_eq_some_iff.1 hu).1
      have := hcc j (by omega)
      rw [hu] at this
      rw [← this]
      congr 1
      unfold Addr.add
      by_cases e1 : i * sz = 0 <;> by_cases e2 : j = 0 <;> simp [e1, e2, Nat.add_assoc]
      all_goals first | omega | skip
    have build : ∀ k, k ≤ len → ∃ ls : List (List Value), ls.length = k ∧ (∀ c ∈ ls, Ok c) ∧ ∀ j u, ls.flatten[j]? = some u → w.cell? (x.add j) = some u := by
      intro k
      induction k with
      | zero => intro _; exact ⟨[], rfl, by simp, fun j u hu => by simp at hu⟩
      | succ k ih =>
        intro hk
        obtain ⟨ls, hls, hok, hc⟩ := ih (by omega)
        obtain ⟨c, hck, hcc⟩ := each k (by omega)
        have hfl : ls.flatten.length = k * sz := by
          rw [← hls]
          clear hls hc
          induction ls with
          | nil => simp
          | cons a r ihr => rw [List.flatten_cons, List.length_append, hlen _ (hok a List.mem_cons_self), ihr (fun c hc => hok c (List.mem_cons_of_mem _ hc)), List.length_cons, Nat.add_mul]; omega
        refine ⟨ls ++ [c], by simp [hls], fun c' hc' => by rcases List.mem_append.1 hc' with h | h; exact hok c' h; rw [List.mem_singleton.1 h]; exact hck, fun j u hu => ?_⟩
        rw [List.flatten_append] at hu
        simp only [List.flatten_cons, List.flatten_nil, List.append_nil] at hu
        by_cases hj : j < ls.flatten.length
        · rw [List.getElem?_append_left hj] at hu; exact hc j u hu
        · rw [List.getElem?_append_right (by omega)] at hu
          have := hcc _ u hu
          rw [show k * sz + (j - ls.flatten.length) = j by omega] at this
          exact this
    obtain ⟨ls, hls, hok, hc⟩ := build len (Nat.le_refl _)
    refine ⟨ls, hls, by omega, hok, some x, len, cap, rfl, h1, by omega, ?_, (fun h => by cases h), fun j u hu => ⟨x, rfl, hc j u hu⟩⟩
    rw [← hls]
    clear hls hc
    induction ls with
    | nil => simp
    | cons a r ihr => rw [List.flatten_cons, List.length_append, hlen _ (hok a List.mem_cons_self), ihr (fun c hc => hok c (List.mem_cons_of_mem _ hc)), List.length_cons, Nat.add_mul]; omega
theorem deepF_ok {n m : Nat} {t : TypeId} {l : List Kn} {cs : List Value} {x : DataW H × List MemPlace} (h : deepF P n t = some l) (hx : DataW.trod enc P w base spare held m t cs = some x) : CellsIn w l cs := by
  unfold deepF at h
  split at h
  · rename_i l' hl'
    cases h
    exact CellsIn.ofOk (flatT_ok n t l' m cs x hl' hx)
  · split at h
    · rename_i e hu
      split at h
      · rename_i l' hl'
        split at h
        · rename_i hsz
          cases h
          have hcs : ∃ A len cap, cs = [.slice A len cap] := by
            rcases DataW.trod_slice hu hx with ⟨rfl, _⟩ | ⟨a, ln, cp, _, _, _, _, rfl, _⟩
            · exact ⟨_, _, _, rfl⟩
            · exact ⟨_, _, _, rfl⟩
          obtain ⟨A, len, cap, rfl⟩ := hcs
          have hT : DataW.Trod enc P w base spare held t (.slice A len cap) x.1 x.2 := ⟨m, hx⟩
          obtain ⟨ls, h1, h2, h3, h4⟩ := any_row (Ok := CellsOk l') hu hsz (fun c hc => hc.length) (fun m cs x hx => flatT_ok n e l' m cs x hl' hx) hT
          exact ⟨_, [], rfl, ⟨A, len, cap, ls, rfl, h1, h2, h3, h4⟩, rfl⟩
        · cases h
      · cases h
    · cases h
theorem deepT_ok {n m : Nat} {t : TypeId} {l : List Kn} {cs : List Value} {x : DataW H × List MemPlace} (h : deepT P n t = some l) (hx : DataW.trod enc P w base spare held m t cs = some x) : CellsIn w l cs := by
  unfold deepT at h
  cases hu : P.underlying t with
  | none => rw [hu] at h; cases h
  | some d =>
    rw [hu] at h
    cases d <;> simp only [reduceCtorEq] at h
    case struct fs =>
      split at h
      · rename_i l' hl'
        split at h
        · rename_i hlen
          cases h
          obtain ⟨xs, k, rfl, _, hcl, hxl, hf⟩ := DataW.trod_struct hu hx
          have := deepFs_ok (cs := cs) (fun t l cs x h1 h2 => deepF_ok h1 h2) fs.toList 0 l hl' (by omega) (fun f hfm => by
            obtain ⟨i, hi⟩ := List.getElem?_of_mem hfm
            have hi' : i < fs.toList.length := (List.getElem?_eq_some_iff.1 hi).1
            have hfi := hf i f (by simpa using hi)
            have hix : i < xs.length := by simp at hi'; omega
            exact ⟨xs[i], by rw [hfi, List.getElem?_eq_getElem hix]⟩)
          rw [List.drop_zero, List.take_of_length_le (by omega)] at this
          exact this
        · cases h
      · cases h
theorem deep_row {t e : TypeId} {n len cap : Nat} {l : List Kn} {A : Option Addr} {d : DataW H} {ps : List MemPlace} (ht : P.underlying t = some (.slice e)) (hl : deepT P n e = some l) (hsz : P.cellsOf e = l.length)
    (h : DataW.Trod enc P w base spare held t (.slice A len cap) d ps) : ∃ ls : List (List Value), ls.length = len ∧ len ≤ 9223372036854775807 ∧ (∀ c ∈ ls, CellsIn w l c) ∧ rowH l.length ls.flatten w (.slice A len cap) :=
  any_row ht hsz (fun c hc => hc.length) (fun m cs x hx => deepT_ok hl hx) h
end
end Go.Free
end

section
set_option linter.unusedSimpArgs false
set_option linter.unusedVariables false
set_option maxRecDepth 20000
namespace Go.Proofs.Ytepgphflnelpoaa
open Go.Free Go.RowKit Go.Proofs
set_option maxHeartbeats 4000000

structure OpV8 where
  kind : Int
  n : Int
  at_ : Int
  turn : Int
  e : EvV
  s : List UInt8
  v : Value
  L : List EvV
def OpV8.enc (o : OpV8) : List Value := [vi o.kind, vi o.n, vi o.at_, vi o.turn] ++ o.e.enc ++ [str o.s, o.v]
def OpV8.okV (o : OpV8) : Prop := in64 o.kind ∧ in64 o.n ∧ in64 o.at_ ∧ in64 o.turn ∧ o.e.okV ∧ o.s.length ≤ 9223372036854775807 ∧ o.L.length ≤ 9223372036854775807 ∧ (∀ x ∈ o.L, x.okV) ∧ ∃ A c, o.v = .slice A o.L.length c
def op80 : OpV8 := ⟨0, 0, 0, 0, ev0, [], .slice none 0 0, []⟩
theorem enc8 (o : OpV8) : o.enc.length = 32 := rfl
theorem elt8 : Elt Try.prog 53 51 (.agg op80.enc.toArray) 32 304 := Elt.mk' Try.underlying53 (by kernel_rfl) rfl (by decide) (by decide)
/-- The script, and the events of its calls. -/
def opsH (sc : List OpV8) (w : World) (x : Value) : Prop := rowH 32 (sc.flatMap OpV8.enc) w x ∧ ∀ o ∈ sc, rowH 26 (evsC o.L) w o.v
def ops8F (sc : List OpV8) : Fa := .is ⟨opsH sc, fun _ _ _ hb h => ⟨rowH_mono hb h.1, fun o ho => rowH_mono hb (h.2 o ho)⟩⟩
def kns8 : List Kn := ([Kd.int .i64, Kd.int .i64, Kd.int .i64, Kd.int .i64] ++ kdsEvent ++ [Kd.str]).map Kn.flat ++ [Kn.rows kdsEvent]
theorem ok_split : ∀ {k1 k2 : List Kd} {c : List Value}, CellsOk (k1 ++ k2) c → ∃ c1 c2, c = c1 ++ c2 ∧ CellsOk k1 c1 ∧ CellsOk k2 c2
  | [], _, c, h => ⟨[], c, rfl, rfl, h⟩
  | _ :: k1, _, _, ⟨v, r', h1, h2, h4⟩ => by
    obtain ⟨c1, c2, rfl, h5, h6⟩ := ok_split (k1 := k1) h4
    exact ⟨v :: c1, c2, h1, ⟨v, c1, rfl, h2, h5⟩, h6⟩
theorem op8_of {w : World} {c : List Value} (h : CellsIn w kns8 c) : ∃ o : OpV8, c = o.enc ∧ o.okV ∧ rowH 26 (evsC o.L) w o.v := by
  obtain ⟨c1, c2, rfl, h1, h2⟩ := CellsIn.flats h
  obtain ⟨c3, c4, rfl, h3, h4⟩ := ok_split h1
  obtain ⟨c5, c6, rfl, h5, h6⟩ := ok_split h3
  obtain ⟨_, _, rfl, ⟨a1, rfl, k1⟩, _, _, rfl, ⟨a2, rfl, k2⟩, _, _, rfl, ⟨a3, rfl, k3⟩, _, _, rfl, ⟨a4, rfl, k4⟩, rfl⟩ := h5
  obtain ⟨e, rfl, he⟩ := ev_of h6
  obtain ⟨_, _, rfl, ⟨s, rfl, hs⟩, rfl⟩ := h4
  obtain ⟨_, _, rfl, ⟨A, len, cap, ls, rfl, l1, l2, l3, l4⟩, rfl⟩ := h2
  obtain ⟨L, g1, g2, g3⟩ := evs_of ls l3
  refine ⟨⟨a1, a2, a3, a4, e, s.data.toList, .slice A len cap, L⟩, by simp [OpV8.enc, str], ⟨in64_wf.1 k1, in64_wf.1 k2, in64_wf.1 k3, in64_wf.1 k4, he, str_len hs, ?_, g3, A, cap, ?_⟩, ?_⟩
  · dsimp only; omega
  · dsimp only; rw [g1, l1]
  · dsimp only
    rw [show evsC L = ls.flatten from g2.symm]
    exact l4
theorem ops8_of {w : World} : ∀ (ls : List (List Value)), (∀ c ∈ ls, CellsIn w kns8 c) → ∃ sc : List OpV8, sc.length = ls.length ∧ ls.flatten = sc.flatMap OpV8.enc ∧ ∀ o ∈ sc, o.okV ∧ rowH 26 (evsC o.L) w o.v
  | [], _ => ⟨[], rfl, rfl, by simp⟩
  | c :: r, h => by
    obtain ⟨o, rfl, ho⟩ := op8_of (h c List.mem_cons_self)
    obtain ⟨sc, h1, h2, h3⟩ := ops8_of r (fun c hc => h c (List.mem_cons_of_mem _ hc))
    exact ⟨o :: sc, by simp [h1], by simp [h2], fun x hx => by rcases List.mem_cons.1 hx with rfl | hx; exact ho; exact h3 x hx⟩
def few8 (sc : List OpV8) : Bool := decide (sc.length ≤ 100) && sc.all fun o => decide (o.s.length ≤ 70000 ∧ o.L.length ≤ 100)
theorem few8_iff {sc : List OpV8} : few8 sc = true ↔ sc.length ≤ 100 ∧ ∀ o ∈ sc, o.s.length ≤ 70000 ∧ o.L.length ≤ 100 := by simp [few8]
theorem ops8_len (sc : List OpV8) : (sc.flatMap OpV8.enc).length = sc.length * 32 := flatMap_length _ 32 enc8 sc
/-- In every world above w0 the slot's value is the script. -/
theorem sub8 {w0 : World} {u : Value} {sc : List OpV8} (h : opsH sc w0 u) : Sub (fun w => Below w0.heap.size w0 w) (.ex u) (row 32 (sc.flatMap OpV8.enc)) := fun w y hw hy => by
  simp only [Fa.den] at hy
  subst hy
  exact rowH_mono hw h.1
theorem subL {w0 : World} {u : Value} {L : List EvV} (h : rowH 26 (evsC L) w0 u) : Sub (fun w => Below w0.heap.size w0 w) (.ex u) (row 26 (evsC L)) := fun w y hw hy => by
  simp only [Fa.den] at hy
  subst hy
  exact rowH_mono hw h
theorem few8_fn (sc : List OpV8) (hl : sc.length ≤ 9223372036854775807) (hok : ∀ o ∈ sc, o.okV) : Spc Try.prog 19 [ops8F sc] fun _ => .ex (.bool (few8 sc)) := by
  refine Spc.intro Try.func19 rfl (Nat.le_of_ble_eq_true rfl) fun w0 => ?_
  have hI := hIb w0
  refine J.nameOld (t := 0) rfl fun u hu => ?_
  have hs8 := sub8 hu
  have hL8 := hu.2
  repeat (first | refine Plan.move rfl rfl rfl rfl ?_ | refine Plan.assign rfl rfl rfl rfl ?_ | refine J.seq (J.region mixed hI (by kernel_rfl) ?_) | refine J.seq (J.seq (J.region mixed hI (by kernel_rfl) ?_)))
  refine Plan.lenRow (m := sc.length) rfl rfl rfl rfl hs8 Try.underlying53 (by rw [ops8_len]) (by decide) ?_
  repeat ((refine Plan.ints rfl rfl rfl rfl rfl rfl ?_; (skip)))
  refine J.condD rfl (fun h => ?_) (fun h => ?_)
  · have hs : few8 sc = false := by unfold few8; rw [decide_eq_false (by omega)]; rfl
    rw [hs]
    repeat (first | refine Plan.assign rfl rfl rfl rfl ?_ | refine J.seq (J.region mixed hI (by kernel_rfl) ?_))
    exact J.ret (Nrm.ret1 rfl (fun _ h => h) rfl fun B _ => Sub.refl _)
  repeat (first | refine Plan.move rfl rfl rfl rfl ?_ | refine J.seq (J.seq (J.region mixed hI (by kernel_rfl) ?_)) | refine J.skip ?_)
  refine Plan.lenRow (m := sc.length) rfl rfl rfl rfl hs8 Try.underlying53 (by rw [ops8_len]) (by decide) ?_
  repeat (refine Plan.move rfl rfl rfl rfl ?_)
  refine J.block (J.loop (fun i : Nat => [(0, .ex u), (8, .ex (vi sc.length)), (9, .ex (vi i))]) (fun i => i ≤ sc.length ∧ ∀ o ∈ sc.take i, o.s.length ≤ 70000 ∧ o.L.length ≤ 100) (fun i => sc.length - i) 0 ⟨Nat.zero_le _, fun o ho => by simp at ho⟩ ?_ ?_)
  · repeat (first | exact Weak.nil | refine Weak.cons rfl (Sub.refl _) ?_)
  rintro i ⟨hi, hall⟩
  repeat (first | (refine Plan.ints rfl rfl rfl rfl rfl rfl ?_; (skip)) | refine J.seq (J.region mixed hI (by kernel_rfl) ?_))
  refine J.seq (J.condD rfl (fun hlt => ?_) (fun hlt => ?_))
  · have hlt' : i < sc.length := by omega
    obtain ⟨o, hoe⟩ : ∃ o, o = sc[i] := ⟨_, rfl⟩
    have hget : sc.getD i op80 = o := by simp [hoe, List.getD_eq_getElem?_getD, List.getElem?_eq_getElem hlt']
    have hoM : o ∈ sc := hoe ▸ List.getElem_mem hlt'
    have hlo := hL8 o hoM
    have hov := hok o hoM
    obtain ⟨A, cp, hv⟩ := hov.2.2.2.2.2.2.2.2
    have hno : ¬ (o.s.length ≤ 70000 ∧ o.L.length ≤ 100) → few8 sc = false := fun hn => by
      cases h : few8 sc with
      | false => rfl
      | true => exact absurd ((few8_iff.1 h).2 o hoM) hn
    repeat (refine J.skip ?_)
    refine J.seq (J.block ?_)
    repeat (first | refine Plan.move rfl rfl rfl rfl ?_ | refine Plan.assign rfl rfl rfl rfl ?_ | refine J.seq (J.region mixed hI (by kernel_rfl) ?_))
    refine Plan.indexAddr OpV8.enc 32 sc op80 rfl rfl rfl rfl hs8 rfl elt8 enc8 (by omega) (by omega) ?_
    rw [Int.toNat_natCast, hget]
    refine Plan.fieldPtr (us := [str o.s]) rfl rfl rfl rfl (Sub.refl _) Try.underlying51 rfl (by kernel_rfl) rfl ?_
    refine Plan.load rfl rfl rfl rfl (Sub.refl _) Try.underlying9 rfl ?_
    repeat (first | refine Plan.move rfl rfl rfl rfl ?_ | refine Plan.lenStr rfl rfl rfl rfl Try.underlying9 ?_ | (refine Plan.ints rfl rfl rfl rfl rfl rfl ?_; (skip)))
    refine Plan.splitD (fun h2 => ?_) (fun h2 => ?_)
    · rw [hno (by omega)]
      repeat (first | refine Plan.assign rfl rfl rfl rfl ?_ | refine Plan.skip rfl rfl ?_ | refine Plan.pick rfl rfl rfl rfl rfl ?_ | refine J.seq (J.region mixed hI (by kernel_rfl) ?_) | refine J.condT rfl ?_)
      exact J.ret (Nrm.ret1 rfl (fun _ h => h) rfl fun B _ => Sub.refl _)
    repeat (refine Plan.move rfl rfl rfl rfl ?_)
    refine Plan.indexAddr OpV8.enc 32 sc op80 rfl rfl rfl rfl hs8 rfl elt8 enc8 (by omega) (by omega) ?_
    rw [Int.toNat_natCast, hget]
    refine Plan.fieldPtr (us := [o.v]) rfl rfl rfl rfl (Sub.refl _) Try.underlying51 rfl (by kernel_rfl) rfl ?_
    refine Plan.load rfl rfl rfl rfl (Sub.refl _) Try.underlying35 rfl ?_
    refine Plan.lenRow (m := o.L.length) rfl rfl rfl rfl (subL hlo) Try.underlying35 (by rw [evs_len]) (by decide) ?_
    repeat (first | refine Plan.pick rfl rfl rfl rfl rfl ?_ | (refine Plan.ints rfl rfl rfl rfl rfl rfl ?_; (skip)))
    refine J.condD rfl (fun h3 => ?_) (fun h3 => ?_)
    · rw [hno (by omega)]
      repeat (first | refine Plan.assign rfl rfl rfl rfl ?_ | refine J.seq (J.region mixed hI (by kernel_rfl) ?_))
      exact J.ret (Nrm.ret1 rfl (fun _ h => h) rfl fun B _ => Sub.refl _)
    · repeat (first | refine Plan.move rfl rfl rfl rfl ?_ | (refine Plan.ints rfl rfl rfl rfl rfl rfl ?_; (refine Plan.int (i64r (by omega)) ?_)) | refine J.region mixed hI (by kernel_rfl) ?_ | refine J.skip ?_)
      refine Plan.int (y := ((i + 1 : Nat) : Int)) (by omega) ?_
      refine Nrm.next (i + 1) ⟨hlt', fun y hy => ?_⟩ (by omega) (by repeat (first | exact Weak.nil | refine Weak.cons rfl (Sub.refl _) ?_))
      rw [List.take_succ_eq_append_getElem hlt'] at hy
      rcases List.mem_append.1 hy with hy | hy
      · exact hall y hy
      · rw [List.mem_singleton.1 hy, ← hoe]; omega
  · have hie : i = sc.length := by omega
    subst hie
    rw [List.take_length] at hall
    have hs : few8 sc = true := few8_iff.2 ⟨by omega, hall⟩
    rw [hs]
    refine J.exit ?_
    repeat (first | refine Plan.assign rfl rfl rfl rfl ?_ | refine J.seq (J.region mixed hI (by kernel_rfl) ?_))
    exact J.ret (Nrm.ret1 rfl (fun _ h => h) rfl fun B _ => Sub.refl _)
end Go.Proofs.Ytepgphflnelpoaa
end

section
set_option linter.unusedSimpArgs false
set_option linter.unusedVariables false
set_option maxRecDepth 20000
namespace Go.Proofs.Ytepgphflnelpoaa
open Go.Free Go.RowKit Go.Proofs
set_option maxHeartbeats 2000000

/-- The first i of 16 bits of m turned, from a place on. -/
def flips (l : List UInt8) (p m : Nat) : Nat → List UInt8
  | 0 => l
  | i + 1 => if m / 2 ^ (15 - i) % 2 = 1 then flipAt (flips l p m i) (p + i) else flips l p m i
theorem flips_length (l : List UInt8) (p m : Nat) : ∀ i, (flips l p m i).length = l.length
  | 0 => rfl
  | i + 1 => by unfold flips; split <;> simp [flip_length, flips_length l p m i]
def keptOf (n : Nat) (keep : Int) : Nat := (max 0 (min keep n)).toNat
def tailOf (t : List UInt8) (at_ turn : Int) : List UInt8 :=
  if 2 ≤ t.length then flips t (at_ % ((8 * t.length : Nat) - 15)).toNat (turn % 65536).toNat 16 else t
def crashOf (l : List UInt8) (f : Nat) (keep at_ turn : Int) : List UInt8 := l.take f ++ tailOf ((l.drop f).take (keptOf (l.length - f) keep)) at_ turn
theorem kept_eq (n : Nat) (keep : Int) : ((keptOf n keep : Nat) : Int) = if (if ((n : Nat) : Int) < keep then ((n : Nat) : Int) else keep) > 0 then (if ((n : Nat) : Int) < keep then ((n : Nat) : Int) else keep) else 0 := by
  unfold keptOf; split <;> split <;> omega
theorem kept_le (n : Nat) (keep : Int) : keptOf n keep ≤ n := by unfold keptOf; omega
theorem tail_length (t : List UInt8) (a b : Int) : (tailOf t a b).length = t.length := by unfold tailOf; split <;> simp [flips_length]

theorem and1i (x : Nat) (h : x < 65536) : IntKind.i64.wrap ((BitVec.ofInt IntKind.i64.bits (x : Int) &&& BitVec.ofInt IntKind.i64.bits 1).toNat : Int) = ((x % 2 : Nat) : Int) := by
  have e : (BitVec.ofInt IntKind.i64.bits (x : Int) &&& BitVec.ofInt IntKind.i64.bits 1).toNat = x % 2 := by
    show (BitVec.ofInt 64 (x : Int) &&& BitVec.ofInt 64 1).toNat = _
    rw [BitVec.toNat_and, BitVec.ofInt_natCast, BitVec.toNat_ofNat, Nat.mod_eq_of_lt (by omega)]
    exact Nat.and_one_is_mod x
  rw [e, i64r (by omega)]
theorem bit_natD (pos : Nat) : ((128 / 2 ^ (pos % 8) : Nat) : Int) = (bitAt pos).toNat := by
  have h : pos % 8 < 8 := Nat.mod_lt _ (by decide)
  have e : (bitAt pos).toNat = 128 / 2 ^ (pos % 8) := by
    unfold bitAt
    generalize pos % 8 = r at h
    have : r = 0 ∨ r = 1 ∨ r = 2 ∨ r = 3 ∨ r = 4 ∨ r = 5 ∨ r = 6 ∨ r = 7 := by omega
    rcases this with rfl | rfl | rfl | rfl | rfl | rfl | rfl | rfl <;> rfl
  rw [e]

def crashE (β g cap f kp r p m : Nat) (turn : Int) (A : Nat → Prop) (h t0 : List UInt8) (i : Nat) : Env :=
  [(0, .ex (ptr β)), (3, .ex (.int .i64 turn)), (9, .ex (.slice (some ⟨g, 0 + f * 1, none⟩) (f + kp - f) (cap - f))), (10, .ex (.int .i64 p)), (57, .ex (.int .i64 i)),
   (1000, heap A [obj β [.slice (some ⟨g, 0, none⟩) (f + kp) cap, .int .i64 f, .int .i64 r], rowC 5 1 (some ⟨g, 0, none⟩) (f + kp) cap (bs (h ++ flips t0 p m i))])]

theorem disk_Crash (β : Nat) (l : List UInt8) (f r : Nat) (keep at_ turn : Int) (hl : l.length ≤ 65536) (hf : f ≤ l.length)
    (hkeep : -9223372036854775808 ≤ keep ∧ keep ≤ 9223372036854775807) (hat : -9223372036854775808 ≤ at_ ∧ at_ ≤ 9223372036854775807) (hturn : -9223372036854775808 ≤ turn ∧ turn ≤ 9223372036854775807) :
    SpcC Try.prog 23 [.ex (ptr β), .ex (.int .i64 keep), .ex (.int .i64 at_), .ex (.int .i64 turn)] (diskC β l f r) (fun _ : Unit => True)
    (fun _ => Fa.any) (fun _ => diskC β (crashOf l f keep at_ turn) (crashOf l f keep at_ turn).length r) := by
  refine SpcC.intro Try.func23 rfl (Nat.le_of_ble_eq_true rfl) fun w0 F => ?_
  have hI := kept_below F w0
  have hA := Own.kept F w0
  refine J.exC (key := 1000) (q := 0) rfl rfl fun x => ?_
  refine J.sepC (key := 1000) (q := 0) rfl rfl ?_
  refine J.factC (key := 1000) (q := 1) rfl rfl (fun w F hh => row_fact hh) fun hfact => ?_
  obtain ⟨-, hcap, hcapM, hB⟩ := hfact
  obtain ⟨B, cap⟩ := x
  dsimp only at hcap hcapM hB
  dsimp only
  repeat (first | refine Plan.move rfl rfl rfl rfl ?_ | refine Plan.lenE rfl rfl rfl rfl Try.underlying27 ?_ | (refine Plan.ints rfl rfl rfl rfl rfl rfl ?_; (refine Plan.int (i64r (by omega)) ?_)) | refine Plan.nilOk rfl rfl rfl rfl ?_ | refine Plan.fieldC rfl rfl rfl rfl (by exact Try.underlying74) rfl (by kernel_rfl) (by first | exact (rfl : _ = 0) | exact (rfl : _ = 1)) ?_ | refine Plan.loadC (key := 1000) (q := 0) rfl rfl rfl rfl rfl rfl (obj_reads1 rfl) (by first | exact Try.underlying3 | exact Try.underlying27) (by rfl) (by decide) ?_ | refine Plan.eqlPtr rfl rfl rfl rfl (by kernel_rfl) ?_ | refine J.seq (J.region mixed hI (by kernel_rfl) ?_) | refine J.seq (J.seq (J.region mixed hI (by kernel_rfl) ?_)) | refine J.condF rfl ?_ | refine J.skip ?_)
  refine Plan.int (y := ((l.length - f : Nat) : Int)) (by omega) ?_
  refine Plan.min2 rfl rfl rfl rfl rfl ?_
  refine Plan.max2 rfl rfl rfl rfl rfl ?_
  rw [← kept_eq]
  obtain ⟨kp, hkp⟩ : ∃ kp, kp = keptOf (l.length - f) keep := ⟨_, rfl⟩
  have hkple : kp ≤ l.length - f := by rw [hkp]; exact kept_le _ _
  rw [← hkp]
  repeat (first | refine Plan.move rfl rfl rfl rfl ?_ | refine Plan.assign rfl rfl rfl rfl ?_ | (refine Plan.ints rfl rfl rfl rfl rfl rfl ?_; (refine Plan.int (i64r (by omega)) ?_)) | refine Plan.nilOk rfl rfl rfl rfl ?_ | refine Plan.fieldC rfl rfl rfl rfl (by exact Try.underlying74) rfl (by kernel_rfl) (by first | exact (rfl : _ = 0) | exact (rfl : _ = 1)) ?_ | refine Plan.loadC (key := 1000) (q := 0) rfl rfl rfl rfl rfl rfl (obj_reads1 rfl) (by first | exact Try.underlying3 | exact Try.underlying27) (by rfl) (by decide) ?_ | refine J.seq (J.region mixed hI (by kernel_rfl) ?_))
  refine Plan.int (y := ((f + kp : Nat) : Int)) (by omega) ?_
  refine Plan.sliceHi rfl rfl rfl rfl eltB rfl (by omega) ?_
  repeat (first | refine Plan.nilOk rfl rfl rfl rfl ?_ | refine Plan.fieldC rfl rfl rfl rfl (by exact Try.underlying74) rfl (by kernel_rfl) (by exact (rfl : _ = 0)) ?_)
  refine Plan.storeC (key := 1000) (q := 0) rfl rfl rfl rfl rfl rfl (by simp [Value.cells, Value.oneCell']) (by kernel_rfl) rfl hA rfl (obj_pat1 (Nat.le_of_ble_eq_true rfl)) ?_
  have hbt : List.take ((f + kp) * 1) (bs l) = bs (l.take f ++ (l.drop f).take kp) := by rw [← List.take_add, Nat.mul_one]; simp [bs, List.map_take]
  refine J.convC (key := 1000) (q := 1) rfl rfl (Ent.rowCut (m := f + kp) (by omega)) ?_
  rw [hbt]
  obtain ⟨t0, ht0⟩ : ∃ t0, t0 = (l.drop f).take kp := ⟨_, rfl⟩
  have ht0l : t0.length = kp := by rw [ht0, List.length_take, List.length_drop]; omega
  have hcr : crashOf l f keep at_ turn = l.take f ++ tailOf t0 at_ turn := by unfold crashOf; rw [← hkp, ← ht0]
  have hcrl : (crashOf l f keep at_ turn).length = f + kp := by rw [hcr, List.length_append, tail_length, ht0l, List.length_take]; omega
  have hclose : ∀ B : Option Addr, Ent (allC [obj β [.slice B (f + kp) cap, .int .i64 f, .int .i64 r], rowC 5 1 B (f + kp) cap (bs (l.take f ++ tailOf t0 at_ turn))]) (diskC β (crashOf l f keep at_ turn) f r) := by
    intro B
    have h9 := disk_close (l := crashOf l f keep at_ turn) (B := B) (cap := cap) (f := f) (r := r) (β := β)
    simp only [rowB, hcrl] at h9
    rw [hcr] at h9
    rw [hcr]
    exact h9
  rw [← ht0]
  repeat (first | refine Plan.move rfl rfl rfl rfl ?_ | refine Plan.nilOk rfl rfl rfl rfl ?_ | refine Plan.fieldC rfl rfl rfl rfl (by exact Try.underlying74) rfl (by kernel_rfl) (by first | exact (rfl : _ = 0) | exact (rfl : _ = 1)) ?_ | refine Plan.loadC (key := 1000) (q := 0) rfl rfl rfl rfl rfl rfl (obj_reads1 rfl) (by first | exact Try.underlying3 | exact Try.underlying27) (by rfl) (by decide) ?_ | refine J.seq (J.region mixed hI (by kernel_rfl) ?_))
  by_cases h2 : 2 ≤ kp
  · rcases hB with ⟨_, _, h0⟩ | ⟨g, rfl⟩
    · omega
    refine Plan.sliceLo rfl rfl rfl rfl eltB rfl (by omega) (by omega) (by omega) ?_
    repeat (first | refine Plan.move rfl rfl rfl rfl ?_ | refine Plan.assign rfl rfl rfl rfl ?_ | (refine Plan.ints rfl rfl rfl rfl rfl rfl ?_; (skip)) | refine J.seq (J.seq (J.region mixed hI (by kernel_rfl) ?_)))
    refine J.condD rfl (fun h3 => ?_) (fun h3 => ?_)
    rotate_left
    · omega
    · repeat (first | refine Plan.move rfl rfl rfl rfl ?_ | (refine Plan.ints rfl rfl rfl rfl rfl rfl ?_; (refine Plan.int (i64r (by omega)) ?_)) | refine J.seq (J.region mixed hI (by kernel_rfl) ?_))
      refine Plan.call (B := 0) rfl rfl rfl (disk_rest at_ (8 * (kp : Int) - 15) (by omega)) Try.func41 rfl rfl (fun _ _ => Nat.zero_le _) (by repeat (first | exact Opnds.nil | refine Opnds.cons rfl (by exact Sub.refl _) ?_)) ?_
      obtain ⟨p, hp⟩ : ∃ p : Nat, (p : Int) = at_ % (8 * (kp : Int) - 15) := ⟨(at_ % (8 * (kp : Int) - 15)).toNat, Int.toNat_of_nonneg (Int.emod_nonneg _ (by omega))⟩
      have hpl : p < 8 * kp - 15 := by
        have := Int.emod_lt_of_pos at_ (show (0 : Int) < 8 * (kp : Int) - 15 by omega)
        omega
      rw [← hp]
      obtain ⟨m, hm⟩ : ∃ m : Nat, (m : Int) = turn % 65536 := ⟨(turn % 65536).toNat, Int.toNat_of_nonneg (Int.emod_nonneg _ (by omega))⟩
      have hml : m < 65536 := by
        have := Int.emod_lt_of_pos turn (show (0 : Int) < 65536 by omega)
        omega
      have htail : tailOf t0 at_ turn = flips t0 p m 16 := by
        unfold tailOf
        rw [ht0l, if_pos h2, show ((8 * kp : Nat) : Int) - 15 = 8 * (kp : Int) - 15 by omega, ← hp, ← hm]
        rfl
      repeat (first | refine Plan.move rfl rfl rfl rfl ?_ | refine Plan.assign rfl rfl rfl rfl ?_ | refine J.seq (J.region mixed hI (by kernel_rfl) ?_))
      refine J.block (J.loop (crashE β g cap f kp r p m turn (fun b => F b ∨ w0.heap.size ≤ b) (l.take f) t0) (fun i => i ≤ 16) (fun i => 16 - i) 0 (Nat.zero_le _) ?_ ?_)
      · repeat (first | exact Weak.nil | refine Weak.cons rfl (Sub.refl _) ?_)
      intro i hi
      have hfl := flips_length t0 p m i
      repeat (first | (refine Plan.ints rfl rfl rfl rfl rfl rfl ?_; (skip)) | refine J.seq (J.region mixed hI (by kernel_rfl) ?_))
      refine J.seq (J.condD rfl (fun hlt => ?_) (fun hlt => ?_))
      · have hlt' : i < 16 := by omega
        repeat (refine J.skip ?_)
        refine J.seq (J.block ?_)
        repeat (first | refine Plan.move rfl rfl rfl rfl ?_ | refine Plan.assign rfl rfl rfl rfl ?_ | refine J.seq (J.region mixed hI (by kernel_rfl) ?_))
        refine Plan.call (B := 0) rfl rfl rfl (disk_rest turn 65536 (by omega)) Try.func41 rfl rfl (fun _ _ => Nat.zero_le _) (by repeat (first | exact Opnds.nil | refine Opnds.cons rfl (by exact Sub.refl _) ?_)) ?_
        rw [← hm]
        repeat (first | refine Plan.move rfl rfl rfl rfl ?_ | (refine Plan.ints rfl rfl rfl rfl rfl rfl ?_; (refine Plan.int (i64r (by omega)) ?_)))
        refine Plan.int (y := ((15 - i : Nat) : Int)) (by omega) ?_
        refine Plan.shrN rfl rfl rfl rfl rfl (by show 15 - i ≤ 64; omega) ?_
        refine Plan.ints rfl rfl rfl rfl rfl rfl ?_
        refine Plan.int (and1i _ (Nat.lt_of_le_of_lt (Nat.div_le_self _ _) hml)) ?_
        repeat ((refine Plan.ints rfl rfl rfl rfl rfl rfl ?_; (skip)))
        refine J.condE rfl (fun hbit => ?_) (fun hbit => ?_)
        · have hbit' : m / 2 ^ (15 - i) % 2 = 1 := by omega
          have hq8 : (p + i) / 8 < (flips t0 p m i).length := by omega
          have hget : (bs (l.take f ++ flips t0 p m i))[0 + f * 1 + (p + i) / 8 * 1]? = some (.int .u8 ((flips t0 p m i).getD ((p + i) / 8) 0).toNat) := by
            have hlf : (l.take f).length = f := by rw [List.length_take]; omega
            rw [show 0 + f * 1 + (p + i) / 8 * 1 = f + (p + i) / 8 by omega]
            simp only [bs, List.map_append]
            rw [List.getElem?_append_right (by rw [List.length_map, hlf]; omega), List.length_map, hlf, Nat.add_sub_cancel_left, List.getElem?_map, List.getElem?_eq_getElem hq8, List.getD_eq_getElem?_getD, List.getElem?_eq_getElem hq8]
            rfl
          refine (J.region mixed hI (by kernel_rfl) ?_)
          refine Plan.move rfl rfl rfl rfl ?_
          refine Plan.move rfl rfl rfl rfl ?_
          refine Plan.move rfl rfl rfl rfl ?_
          refine Plan.ints rfl rfl rfl rfl rfl rfl ?_
          refine Plan.int (y := ((p + i : Nat) : Int)) (by rw [i64r (by omega)]; omega) ?_
          refine Plan.ints rfl rfl rfl rfl rfl rfl ?_
          refine Plan.int (y := (((p + i) / 8 : Nat) : Int)) (quoN (y := 8) (by omega)) ?_
          refine Plan.indexC rfl rfl rfl rfl rfl eltB (by omega) rfl ?_
          refine Plan.loadC (key := 1000) (q := 1) rfl rfl rfl rfl rfl rfl (row_reads1 hget) Try.underlying5 rfl (by decide) ?_
          refine Plan.move rfl rfl rfl rfl ?_
          refine Plan.move rfl rfl rfl rfl ?_
          refine Plan.ints rfl rfl rfl rfl rfl rfl ?_
          refine Plan.int (y := ((p + i : Nat) : Int)) (by rw [i64r (by omega)]; omega) ?_
          refine Plan.ints rfl rfl rfl rfl rfl rfl ?_
          refine Plan.int (y := (((p + i) % 8 : Nat) : Int)) (remN _ 8) ?_
          refine Plan.shrN (p := 128) (q := (p + i) % 8) rfl rfl rfl rfl rfl (by show (p + i) % 8 ≤ 8; omega) ?_
          refine Plan.int (bit_natD (p + i)) ?_
          refine Plan.ints rfl rfl rfl rfl rfl rfl ?_
          refine Plan.int (u8_xor _ _) ?_
          refine Plan.indexC rfl rfl rfl rfl rfl eltB (by omega) rfl ?_
          refine Plan.storeC (key := 1000) (q := 1) rfl rfl rfl rfl rfl rfl (by simp [Value.cells, Value.oneCell']) (by kernel_rfl) rfl hA rfl (row_pat1 (List.getElem?_eq_some_iff.1 hget).1) ?_
          have hset : (bs (l.take f ++ flips t0 p m i)).set (0 + f * 1 + (p + i) / 8 * 1) (.int .u8 ((flips t0 p m i).getD ((p + i) / 8) 0 ^^^ bitAt (p + i)).toNat) = bs (l.take f ++ flips t0 p m (i + 1)) := by
            have hlf : (l.take f).length = f := by rw [List.length_take]; omega
            rw [bsSet, show 0 + f * 1 + (p + i) / 8 * 1 = f + (p + i) / 8 by omega]
            rw [List.set_append_right _ _ (by omega), hlf, Nat.add_sub_cancel_left]
            simp only [flips, if_pos hbit']
            rfl
          rw [hset]
          repeat (first | refine Plan.move rfl rfl rfl rfl ?_ | (refine Plan.ints rfl rfl rfl rfl rfl rfl ?_; (refine Plan.int (i64r (by omega)) ?_)) | refine J.region mixed hI (by kernel_rfl) ?_)
          refine Nrm.next (i + 1) hlt' (by omega) (by repeat (first | exact Weak.nil | refine Weak.cons rfl (Sub.refl _) ?_))
        · have hbit' : ¬ m / 2 ^ (15 - i) % 2 = 1 := by omega
          have hset : flips t0 p m i = flips t0 p m (i + 1) := by simp only [flips, if_neg hbit']
          refine J.convC (key := 1000) (q := 1) rfl rfl (Ent.rowEq (congrArg (fun t => bs (l.take f ++ t)) hset)) ?_
          repeat (first | refine Plan.move rfl rfl rfl rfl ?_ | (refine Plan.ints rfl rfl rfl rfl rfl rfl ?_; (refine Plan.int (i64r (by omega)) ?_)) | refine J.region mixed hI (by kernel_rfl) ?_ | refine J.skip ?_)
          refine Nrm.next (i + 1) hlt' (by omega) (by repeat (first | exact Weak.nil | refine Weak.cons rfl (Sub.refl _) ?_))
      · have hi16 : i = 16 := by omega
        subst hi16
        refine J.exit ?_
        have hcl := hclose (some ⟨g, 0, none⟩)
        rw [htail] at hcl
        repeat (first | refine Plan.move rfl rfl rfl rfl ?_ | refine J.region mixed hI (by kernel_rfl) ?_)
        refine Plan.regroup [diskC β (crashOf l f keep at_ turn) f r] (by kernel_rfl) hI (key := 1000) rfl (hcl.trans Ent.addEmp) ?_
        refine Plan.callC (key := 1000) (q := 0) rfl rfl rfl (disk_Sync β (crashOf l f keep at_ turn) f r) Try.func33 rfl rfl (by intro _ e; cases e; decide) (by repeat (first | exact Opnds.nil | refine Opnds.cons rfl (by exact Sub.refl _) ?_)) rfl hA rfl ?_
        intro _ _
        exact Nrm.retC0 (key := 1000) () rfl rfl rfl trivial Ent.one (.inl rfl)
  · have htail : tailOf t0 at_ turn = t0 := by unfold tailOf; rw [ht0l, if_neg h2]
    refine Plan.sliceAny rfl rfl rfl rfl eltB rfl (by omega) ?_
    repeat (first | refine Plan.move rfl rfl rfl rfl ?_ | refine Plan.assign rfl rfl rfl rfl ?_ | (refine Plan.ints rfl rfl rfl rfl rfl rfl ?_; (skip)) | refine J.seq (J.seq (J.region mixed hI (by kernel_rfl) ?_)))
    refine J.condD rfl (fun h3 => ?_) (fun h3 => ?_)
    · omega
    rw [← htail]
    repeat (first | refine Plan.move rfl rfl rfl rfl ?_ | refine J.region mixed hI (by kernel_rfl) ?_ | refine J.skip ?_)
    refine Plan.regroup [diskC β (crashOf l f keep at_ turn) f r] (by kernel_rfl) hI (key := 1000) rfl ((hclose _).trans Ent.addEmp) ?_
    refine Plan.callC (key := 1000) (q := 0) rfl rfl rfl (disk_Sync β (crashOf l f keep at_ turn) f r) Try.func33 rfl rfl (by intro _ e; cases e; decide) (by repeat (first | exact Opnds.nil | refine Opnds.cons rfl (by exact Sub.refl _) ?_)) rfl hA rfl ?_
    intro _ _
    exact Nrm.retC0 (key := 1000) () rfl rfl rfl trivial Ent.one (.inl rfl)
end Go.Proofs.Ytepgphflnelpoaa
end

section
set_option linter.unusedSimpArgs false
set_option linter.unusedVariables false
set_option maxRecDepth 20000
namespace Go.Proofs.Ytepgphflnelpoaa
open Go.Free Go.RowKit Go.Proofs

def evBod (e : EvV) : List UInt8 := 0 :: encB e
def bodOf (m : LogV) : List (List UInt8) := (if m.b = true then [1 :: m.s] else []) ++ m.l.map evBod
def reL (L : List EvV) : List EvV := L.map fun e => decR (encB e)
theorem evs_re {L : List EvV} (h : ∀ e ∈ L, rightP e) : evsC (reL L) = evsC L := by
  induction L with
  | nil => rfl
  | cons e r ih =>
    have h1 := (dec_back (h e List.mem_cons_self)).2
    have h2 := ih fun x hx => h x (List.mem_cons_of_mem _ hx)
    simp only [reL, List.map_cons, evsC, List.flatMap_cons] at h2 ⊢
    rw [h1, h2]
theorem re_ok (L : List EvV) : ∀ x ∈ reL L, x.okV := fun x hx => by
  obtain ⟨e, _, rfl⟩ := List.mem_map.1 hx
  exact decR_ok _
theorem frames_evs (L : List EvV) : frames (L.map evBod) = L.flatMap evF := by
  induction L with
  | nil => rfl
  | cons e r ih => rw [List.map_cons, frames_cons, ih, List.flatMap_cons]; rfl
theorem rwB_bod (s : List UInt8) (L : List EvV) : rwB s L = frames (bodOf ⟨s, true, L⟩) := by
  unfold bodOf rwB
  rw [if_pos rfl, frames_append, frames_evs, frames_cons]
  simp [frames]
theorem take_ev {m : LogV} {f : Bool} {e : EvV} (h : rightP e) : takeM m (evBod e) f = some ⟨m.s, m.b, m.l ++ [decR (encB e)]⟩ := by
  unfold takeM evBod
  simp [(dec_back h).1]
theorem takes_evs : ∀ (L : List EvV) (f : Bool) (m : LogV) (p : Nat), (∀ e ∈ L, rightP e) → takesM (L.map evBod) f m p = (⟨m.s, m.b, m.l ++ reL L⟩, p + (frames (L.map evBod)).length)
  | [], f, m, p, _ => by simp [takesM, reL, frames]
  | e :: r, f, m, p, h => by
    have h1 : takeM m (evBod e) f = some ⟨m.s, m.b, m.l ++ [decR (encB e)]⟩ := take_ev (h e List.mem_cons_self)
    rw [List.map_cons, takes_some h1, takes_evs r false _ _ fun x hx => h x (List.mem_cons_of_mem _ hx), frames_cons, List.length_append, fPut_length]
    simp only [reL, List.map_cons, List.append_assoc, List.cons_append, List.nil_append, Prod.mk.injEq, true_and]
    omega
theorem bod_le {m : LogV} (hs : m.s.length ≤ 65528) (hr : ∀ e ∈ m.l, rightP e) : ∀ x ∈ bodOf m, x.length ≤ 65529 := fun x hx => by
  unfold bodOf at hx
  rcases List.mem_append.1 hx with hx | hx
  · split at hx
    · rw [List.mem_singleton.1 hx, List.length_cons]; omega
    · cases hx
  · obtain ⟨e, he, rfl⟩ := List.mem_map.1 hx
    have := encB_le (hr e he)
    unfold evBod; rw [List.length_cons]; omega
/-- So many bodies of a log that was laid, ahead of whatever: the snapshot if there is one, and so many events. -/
theorem takes_bod (m : LogV) (j : Nat) (hm : m.b = false → m.s = []) (hj : (if m.b = true then 1 else 0) ≤ j) (hr : ∀ e ∈ m.l, rightP e) :
    takesM ((bodOf m).take j) true log0 0 = (⟨m.s, m.b, reL (m.l.take (j - (if m.b = true then 1 else 0)))⟩, (frames ((bodOf m).take j)).length) := by
  obtain ⟨s, b, L⟩ := m
  dsimp only at *
  have hr' : ∀ k, ∀ e ∈ L.take k, rightP e := fun k e he => hr e (List.mem_of_mem_take he)
  cases b with
  | true =>
    simp only [if_true] at hj ⊢
    obtain ⟨i, rfl⟩ : ∃ i, j = i + 1 := ⟨j - 1, by omega⟩
    have e1 : (bodOf ⟨s, true, L⟩).take (i + 1) = (1 :: s) :: (L.take i).map evBod := by unfold bodOf; simp
    have h1 : takeM log0 (1 :: s) true = some ⟨s, true, []⟩ := rfl
    rw [e1, takes_some h1, takes_evs _ _ _ _ (hr' i), Nat.add_sub_cancel, frames_cons, List.length_append, fPut_length]
    simp only [List.nil_append, Prod.mk.injEq, true_and]
    omega
  | false =>
    have e1 : (bodOf ⟨s, false, L⟩).take j = (L.take j).map evBod := by unfold bodOf; simp
    obtain rfl := hm rfl
    rw [e1, takes_evs _ _ _ _ (hr' j)]
    simp [log0]
theorem open_bod (m : LogV) (hm : m.b = false → m.s = []) (hs : m.s.length ≤ 65528) (hr : ∀ e ∈ m.l, rightP e) : openM (frames (bodOf m)) = (⟨m.s, m.b, reL m.l⟩, (frames (bodOf m)).length) := by
  unfold openM
  rw [scan_all _ (bod_le hs hr)]
  have hl : (bodOf m).length = (if m.b = true then 1 else 0) + m.l.length := by unfold bodOf; split <;> simp [Nat.add_comm]
  have := takes_bod m (bodOf m).length hm (by rw [hl]; omega) hr
  rw [List.take_length, hl, Nat.add_sub_cancel_left, List.take_length] at this
  exact this
theorem crash_all (l : List UInt8) (k a t : Int) : crashOf l l.length k a t = l := by
  unfold crashOf
  rw [List.take_length, List.drop_length, List.take_nil]
  unfold tailOf
  rw [if_neg (by simp), List.append_nil]
theorem rwM_cases (m : LogV) (f : Nat) (l : List UInt8) (df r : Nat) (s : List UInt8) (L : List EvV) (hs : s.length ≤ 65528) :
    rwM m f l df r s L = ((m, f), (l, df), 1) ∨ rwM m f l df r s L = ((m, f), (l, df), 9) ∨ ((∀ e ∈ L, rightP e) ∧ (rwB s L).length ≤ r ∧ rwM m f l df r s L = ((⟨s, true, L⟩, L.length), (rwB s L, (rwB s L).length), 0)) := by
  unfold rwM
  rw [if_neg (by omega)]
  cases h : okAll L with
  | false => exact .inl (by simp)
  | true =>
    simp only [Bool.true_eq_false, if_false]
    by_cases hf : (rwB s L).length ≤ r
    · rw [if_pos hf]; exact .inr (.inr ⟨okAll_iff.1 h, hf, rfl⟩)
    · rw [if_neg hf]; exact .inr (.inl rfl)
theorem sub8F {w0 : World} {u : Value} {sc : List OpV8} (h : opsH sc w0 u) : Sub (fun w => Below w0.heap.size w0 w) (.ex u) (ops8F sc) := fun w y hw hy => by
  simp only [Fa.den] at hy
  subst hy
  exact ⟨rowH_mono hw h.1, fun o ho => rowH_mono hw (h.2 o ho)⟩
theorem below_froz {w0 : World} : ∀ w, Below w0.heap.size w0 w → ∀ b, b < w0.heap.size → b < w.heap.size ∧ w.heap[b]? = w0.heap[b]? := fun w hw b hb => ⟨Nat.lt_of_lt_of_le hb hw.size, hw.block b hb⟩
end Go.Proofs.Ytepgphflnelpoaa
end

section
set_option linter.unusedSimpArgs false
set_option linter.unusedVariables false
set_option maxRecDepth 20000
namespace Go.Proofs.Ytepgphflnelpoaa
open Go.Free Go.RowKit Go.Proofs
set_option maxHeartbeats 2000000

abbrev refC (β : Nat) (l : List UInt8) (f r : Nat) : Chunk := obj β [str l, .int .i64 f, .int .i64 r]
theorem ref_NewD (r : Int) : SpcC Try.prog 24 [.ex (.int .i64 r)] emp (fun _ : Nat => True) (fun β => .ex (ptr β)) (fun β => refC β [] 0 (clampR r)) := by
  refine SpcC.intro Try.func24 rfl (Nat.le_of_ble_eq_true rfl) fun w0 F => ?_
  have hI := kept_below F w0
  have hA := Own.kept F w0
  repeat (first | refine Plan.move rfl rfl rfl rfl ?_ | refine Plan.assign rfl rfl rfl rfl ?_ | refine J.seq (J.region mixed hI (by kernel_rfl) ?_))
  refine Plan.min2 rfl rfl rfl rfl rfl ?_
  refine Plan.max2 rfl rfl rfl rfl rfl ?_
  rw [← clampR_eq]
  refine Plan.build rfl rfl rfl (Parts.cons rfl Parts.nil) (cells := #[str [], .int .i64 0, .int .i64 (clampR r)]) (by kernel_rfl) ?_
  refine Plan.boxC (key := 1000) rfl rfl rfl (by intro _ e; cases e; decide) rfl rfl hA fun β => ?_
  repeat (refine Plan.assign rfl rfl rfl rfl ?_)
  exact J.ret (Nrm.retC1 (key := 1000) β rfl rfl rfl trivial (Sub.refl _) (Ent.right.trans Ent.one))
theorem ref_Append (β : Nat) (l : List UInt8) (f r : Nat) (b : List UInt8) (hl : l.length ≤ r) (hr : r ≤ 65536) (hb : b.length ≤ 140737488300000) : SpcC Try.prog 46 [.ex (ptr β), .ex (str b)] (refC β l f r) (fun _ : Unit => True)
    (fun _ => .ex (.int .i64 (if l.length + b.length ≤ r then 0 else 9))) (fun _ => refC β (if l.length + b.length ≤ r then l ++ b else l) f r) := by
  refine SpcC.intro Try.func46 rfl (Nat.le_of_ble_eq_true rfl) fun w0 F => ?_
  have hI := kept_below F w0
  have hA := Own.kept F w0
  repeat (first | refine Plan.move rfl rfl rfl rfl ?_ | refine Plan.assign rfl rfl rfl rfl ?_ | refine Plan.lenStr rfl rfl rfl rfl Try.underlying9 ?_ | (refine Plan.ints rfl rfl rfl rfl rfl rfl ?_; (first | refine Plan.int (i64r (by omega)) ?_ | skip)) | refine Plan.nilOk rfl rfl rfl rfl ?_ | refine Plan.fieldC rfl rfl rfl rfl (by first | exact Try.underlying74 | exact Try.underlying71) rfl (by kernel_rfl) (by first | exact (rfl : _ = 0) | exact (rfl : _ = 2)) ?_ | refine Plan.loadC (key := 1000) (q := 0) rfl rfl rfl rfl rfl rfl (obj_reads1 rfl) (by first | exact Try.underlying3 | exact Try.underlying9) (by rfl) (by decide) ?_ | refine J.seq (J.region mixed hI (by kernel_rfl) ?_) | refine J.seq (J.seq (J.region mixed hI (by kernel_rfl) ?_)))
  refine J.condD rfl (fun h => ?_) (fun h => ?_)
  · have h' : ¬ l.length + b.length ≤ r := by omega
    rw [if_neg h', if_neg h']
    repeat (first | refine Plan.assign rfl rfl rfl rfl ?_ | refine J.seq (J.region mixed hI (by kernel_rfl) ?_))
    exact J.ret (Nrm.retC1 (key := 1000) () rfl rfl rfl trivial (Sub.refl _) Ent.one)
  · have h' : l.length + b.length ≤ r := by omega
    rw [if_pos h', if_pos h']
    repeat (first | refine Plan.move rfl rfl rfl rfl ?_ | refine Plan.nilOk rfl rfl rfl rfl ?_ | refine Plan.fieldC rfl rfl rfl rfl (by first | exact Try.underlying74 | exact Try.underlying71) rfl (by kernel_rfl) (by exact (rfl : _ = 0)) ?_ | refine Plan.loadC (key := 1000) (q := 0) rfl rfl rfl rfl rfl rfl (obj_reads1 rfl) (by first | exact Try.underlying3 | exact Try.underlying9) (by rfl) (by decide) ?_ | refine J.seq (J.region mixed hI (by kernel_rfl) ?_) | refine J.skip ?_)
    refine Plan.concat rfl rfl rfl rfl rfl (by omega) ?_
    repeat (first | refine Plan.nilOk rfl rfl rfl rfl ?_ | refine Plan.fieldC rfl rfl rfl rfl (by first | exact Try.underlying74 | exact Try.underlying71) rfl (by kernel_rfl) (by exact (rfl : _ = 0)) ?_)
    refine Plan.storeC (key := 1000) (q := 0) rfl rfl rfl rfl rfl rfl (by simp [Value.cells, Value.oneCell', str]) (by kernel_rfl) rfl hA rfl (obj_pat1 (Nat.le_of_ble_eq_true rfl)) ?_
    repeat (first | refine Plan.assign rfl rfl rfl rfl ?_ | refine J.seq (J.region mixed hI (by kernel_rfl) ?_))
    exact J.ret (Nrm.retC1 (key := 1000) () rfl rfl rfl trivial (Sub.refl _) Ent.one)
theorem ref_Replace (β : Nat) (l : List UInt8) (f r : Nat) (b : List UInt8) : SpcC Try.prog 49 [.ex (ptr β), .ex (str b)] (refC β l f r) (fun _ : Unit => True)
    (fun _ => .ex (.int .i64 (if b.length ≤ r then 0 else 9))) (fun _ => if b.length ≤ r then refC β b b.length r else refC β l f r) := by
  refine SpcC.intro Try.func49 rfl (Nat.le_of_ble_eq_true rfl) fun w0 F => ?_
  have hI := kept_below F w0
  have hA := Own.kept F w0
  repeat (first | refine Plan.move rfl rfl rfl rfl ?_ | refine Plan.assign rfl rfl rfl rfl ?_ | refine Plan.lenStr rfl rfl rfl rfl Try.underlying9 ?_ | (refine Plan.ints rfl rfl rfl rfl rfl rfl ?_; (skip)) | refine Plan.nilOk rfl rfl rfl rfl ?_ | refine Plan.fieldC rfl rfl rfl rfl (by first | exact Try.underlying74 | exact Try.underlying71) rfl (by kernel_rfl) (by exact (rfl : _ = 2)) ?_ | refine Plan.loadC (key := 1000) (q := 0) rfl rfl rfl rfl rfl rfl (obj_reads1 rfl) (by exact Try.underlying3) (by rfl) (by decide) ?_ | refine J.seq (J.region mixed hI (by kernel_rfl) ?_) | refine J.seq (J.seq (J.region mixed hI (by kernel_rfl) ?_)))
  refine J.condD rfl (fun h => ?_) (fun h => ?_)
  · have h' : ¬ b.length ≤ r := by omega
    rw [if_neg h', if_neg h']
    repeat (first | refine Plan.assign rfl rfl rfl rfl ?_ | refine J.seq (J.region mixed hI (by kernel_rfl) ?_))
    exact J.ret (Nrm.retC1 (key := 1000) () rfl rfl rfl trivial (Sub.refl _) Ent.one)
  · have h' : b.length ≤ r := by omega
    rw [if_pos h', if_pos h']
    repeat (first | refine Plan.move rfl rfl rfl rfl ?_ | refine Plan.nilOk rfl rfl rfl rfl ?_ | refine Plan.fieldC rfl rfl rfl rfl (by first | exact Try.underlying74 | exact Try.underlying71) rfl (by kernel_rfl) (by exact (rfl : _ = 0)) ?_ | refine J.seq (J.region mixed hI (by kernel_rfl) ?_) | refine J.skip ?_)
    refine Plan.storeC (key := 1000) (q := 0) rfl rfl rfl rfl rfl rfl (by simp [Value.cells, Value.oneCell', str]) (by kernel_rfl) rfl hA rfl (obj_pat1 (Nat.le_of_ble_eq_true rfl)) ?_
    repeat (first | refine Plan.move rfl rfl rfl rfl ?_ | refine Plan.lenStr rfl rfl rfl rfl Try.underlying9 ?_ | refine Plan.nilOk rfl rfl rfl rfl ?_ | refine Plan.fieldC rfl rfl rfl rfl (by first | exact Try.underlying74 | exact Try.underlying71) rfl (by kernel_rfl) (by exact (rfl : _ = 1)) ?_ | refine J.seq (J.region mixed hI (by kernel_rfl) ?_))
    refine Plan.storeC (key := 1000) (q := 0) rfl rfl rfl rfl rfl rfl (by simp [Value.cells, Value.oneCell', str]) (by kernel_rfl) rfl hA rfl (obj_pat1 (Nat.le_of_ble_eq_true rfl)) ?_
    repeat (first | refine Plan.assign rfl rfl rfl rfl ?_ | refine J.seq (J.region mixed hI (by kernel_rfl) ?_))
    exact J.ret (Nrm.retC1 (key := 1000) () rfl rfl rfl trivial (Sub.refl _) Ent.one)
theorem ref_Cut (β : Nat) (l : List UInt8) (f r : Nat) (n : Int) : SpcC Try.prog 44 [.ex (ptr β), .ex (.int .i64 n)] (refC β l f r) (fun _ : Unit => True)
    (fun _ => .ex (.int .i64 (if 0 ≤ n ∧ n ≤ l.length then 0 else 1))) (fun _ => if 0 ≤ n ∧ n ≤ l.length then refC β (l.take n.toNat) n.toNat r else refC β l f r) := by
  refine SpcC.intro Try.func44 rfl (Nat.le_of_ble_eq_true rfl) fun w0 F => ?_
  have hI := kept_below F w0
  have hA := Own.kept F w0
  repeat (first | refine Plan.move rfl rfl rfl rfl ?_ | refine Plan.assign rfl rfl rfl rfl ?_ | (refine Plan.ints rfl rfl rfl rfl rfl rfl ?_; (skip)) | refine J.seq (J.region mixed hI (by kernel_rfl) ?_) | refine J.seq (J.seq (J.region mixed hI (by kernel_rfl) ?_)))
  refine Plan.splitD (fun hn0 => ?_) (fun hn0 => ?_)
  · have h' : ¬ (0 ≤ n ∧ n ≤ l.length) := by omega
    rw [if_neg h', if_neg h']
    repeat (first | refine Plan.assign rfl rfl rfl rfl ?_ | refine Plan.skip rfl rfl ?_ | refine Plan.pick rfl rfl rfl rfl rfl ?_ | refine J.seq (J.region mixed hI (by kernel_rfl) ?_) | refine J.condT rfl ?_)
    exact J.ret (Nrm.retC1 (key := 1000) () rfl rfl rfl trivial (Sub.refl _) Ent.one)
  repeat (first | refine Plan.move rfl rfl rfl rfl ?_ | refine Plan.pick rfl rfl rfl rfl rfl ?_ | refine Plan.lenStr rfl rfl rfl rfl Try.underlying9 ?_ | (refine Plan.ints rfl rfl rfl rfl rfl rfl ?_; (skip)) | refine Plan.nilOk rfl rfl rfl rfl ?_ | refine Plan.fieldC rfl rfl rfl rfl (by first | exact Try.underlying74 | exact Try.underlying71) rfl (by kernel_rfl) (by exact (rfl : _ = 0)) ?_ | refine Plan.loadC (key := 1000) (q := 0) rfl rfl rfl rfl rfl rfl (obj_reads1 rfl) (by first | exact Try.underlying3 | exact Try.underlying9) (by rfl) (by decide) ?_)
  refine J.condD rfl (fun h => ?_) (fun h => ?_)
  · have h' : ¬ (0 ≤ n ∧ n ≤ l.length) := by omega
    rw [if_neg h', if_neg h']
    repeat (first | refine Plan.assign rfl rfl rfl rfl ?_ | refine J.seq (J.region mixed hI (by kernel_rfl) ?_))
    exact J.ret (Nrm.retC1 (key := 1000) () rfl rfl rfl trivial (Sub.refl _) Ent.one)
  have h' : 0 ≤ n ∧ n ≤ l.length := by omega
  rw [if_pos h', if_pos h']
  obtain ⟨m, rfl⟩ : ∃ m : Nat, n = m := ⟨n.toNat, by omega⟩
  rw [Int.toNat_natCast]
  repeat (first | refine Plan.move rfl rfl rfl rfl ?_ | refine Plan.nilOk rfl rfl rfl rfl ?_ | refine Plan.fieldC rfl rfl rfl rfl (by first | exact Try.underlying74 | exact Try.underlying71) rfl (by kernel_rfl) (by exact (rfl : _ = 0)) ?_ | refine Plan.loadC (key := 1000) (q := 0) rfl rfl rfl rfl rfl rfl (obj_reads1 rfl) (by first | exact Try.underlying3 | exact Try.underlying9) (by rfl) (by decide) ?_ | refine J.seq (J.region mixed hI (by kernel_rfl) ?_) | refine J.skip ?_)
  refine Plan.sliceStr (a0 := 0) (b0 := m) rfl rfl rfl rfl Try.underlying9 (.inl ⟨rfl, rfl⟩) (.inr ⟨_, _, rfl, rfl⟩) (Nat.zero_le _) (by omega) ?_
  rw [List.drop_zero]
  repeat (first | refine Plan.nilOk rfl rfl rfl rfl ?_ | refine Plan.fieldC rfl rfl rfl rfl (by first | exact Try.underlying74 | exact Try.underlying71) rfl (by kernel_rfl) (by exact (rfl : _ = 0)) ?_)
  refine Plan.storeC (key := 1000) (q := 0) rfl rfl rfl rfl rfl rfl (by simp [Value.cells, Value.oneCell', str]) (by kernel_rfl) rfl hA rfl (obj_pat1 (Nat.le_of_ble_eq_true rfl)) ?_
  repeat (first | refine Plan.move rfl rfl rfl rfl ?_ | refine Plan.nilOk rfl rfl rfl rfl ?_ | refine Plan.fieldC rfl rfl rfl rfl (by first | exact Try.underlying74 | exact Try.underlying71) rfl (by kernel_rfl) (by exact (rfl : _ = 1)) ?_ | refine J.seq (J.region mixed hI (by kernel_rfl) ?_))
  refine Plan.storeC (key := 1000) (q := 0) rfl rfl rfl rfl rfl rfl (by simp [Value.cells, Value.oneCell', str]) (by kernel_rfl) rfl hA rfl (obj_pat1 (Nat.le_of_ble_eq_true rfl)) ?_
  repeat (first | refine Plan.assign rfl rfl rfl rfl ?_ | refine J.seq (J.region mixed hI (by kernel_rfl) ?_))
  exact J.ret (Nrm.retC1 (key := 1000) () rfl rfl rfl trivial (Sub.refl _) Ent.one)
theorem ref_rest (x y : Int) (hy : 0 < y ∧ y ≤ 4611686018427387904) : Spc Try.prog 50 [.ex (.int .i64 x), .ex (.int .i64 y)] fun _ => .ex (.int .i64 (x % y)) := by
  refine Spc.intro Try.func50 rfl (Nat.le_of_ble_eq_true rfl) fun w0 => ?_
  have hI := hIb w0
  repeat (first | refine Plan.move rfl rfl rfl rfl ?_ | refine Plan.assign rfl rfl rfl rfl ?_ | refine J.seq (J.region mixed hI (by kernel_rfl) ?_))
  refine Plan.ints (v := .int .i64 (x.tmod y)) rfl rfl rfl rfl rfl (by simp only [intVal]; rw [if_neg (by omega)]) ?_
  have h1 : x.tmod y < y := Int.tmod_lt_of_pos x (by omega)
  have h2 : -y < x.tmod y := Int.lt_tmod_of_pos x (b := y) (by omega)
  have h3 : x.tmod y = x - y * (x.tdiv y) := Int.tmod_def x y
  have h4 : (x.tmod y) % y = x % y := by rw [h3, Int.sub_mul_emod_self_left]
  repeat (first | refine Plan.move rfl rfl rfl rfl ?_ | refine Plan.assign rfl rfl rfl rfl ?_ | (refine Plan.ints rfl rfl rfl rfl rfl rfl ?_; (skip)) | refine J.seq (J.seq (J.region mixed hI (by kernel_rfl) ?_)))
  refine J.condD rfl (fun h => ?_) (fun h => ?_)
  · have e : x.tmod y + y = x % y := by
      rw [← h4, ← Int.add_emod_right (x.tmod y) y]
      exact (Int.emod_eq_of_lt (by omega) (by omega)).symm
    repeat (first | refine Plan.move rfl rfl rfl rfl ?_ | refine Plan.assign rfl rfl rfl rfl ?_ | (refine Plan.ints rfl rfl rfl rfl rfl rfl ?_; (refine Plan.int (i64r (by omega)) ?_)) | refine J.seq (J.region mixed hI (by kernel_rfl) ?_) | refine J.region mixed hI (by kernel_rfl) ?_)
    refine Plan.int e ?_
    repeat (fail)
    exact J.ret (Nrm.ret1 rfl (fun _ h => h) rfl fun B _ => Sub.refl _)
  · have e : x.tmod y = x % y := by
      rw [← h4]
      exact (Int.emod_eq_of_lt (by omega) (by omega)).symm
    rw [e]
    repeat (first | refine Plan.move rfl rfl rfl rfl ?_ | refine Plan.assign rfl rfl rfl rfl ?_ | refine J.seq (J.region mixed hI (by kernel_rfl) ?_) | refine J.skip ?_)
    exact J.ret (Nrm.ret1 rfl (fun _ h => h) rfl fun B _ => Sub.refl _)
end Go.Proofs.Ytepgphflnelpoaa
end

section
set_option linter.unusedSimpArgs false
set_option linter.unusedVariables false
set_option maxRecDepth 20000
namespace Go.Proofs.Ytepgphflnelpoaa
open Go.Free Go.RowKit Go.Proofs
set_option maxHeartbeats 8000000

theorem refOp_fn (e : EvV) (h : e.okV) : Spc Try.prog 65 [.ex (aggO e)] fun _ => .ex (.bool (decide (canP e))) := by
  refine Spc.intro Try.func65 rfl (Nat.le_of_ble_eq_true rfl) fun w0 => ?_
  have hI := hIb w0
  have hA := Own.below w0
  have hrr := h.2.2.2.2.2.2.2.2.2.1
  have hrn := h.2.2.2.2.2.2.2.2.2.2
  have hk0 : e.key = [] ↔ e.key.length = 0 := List.length_eq_zero_iff.symm
  refine J.heap0 1000 (newB w0) ?_
  repeat' (first | refine Plan.move rfl rfl rfl rfl ?_ | refine Plan.assign rfl rfl rfl rfl ?_ | refine Plan.skip rfl rfl ?_ | refine Plan.pick rfl rfl rfl rfl rfl ?_ | refine Plan.lenStr rfl rfl rfl rfl Try.underlying9 ?_ | (refine Plan.ints rfl rfl rfl rfl rfl rfl ?_; (skip)) | refine Plan.un rfl rfl rfl rfl rfl ?_ | refine Plan.fieldC rfl rfl rfl rfl (by first | exact Try.underlying48 | exact Try.underlying46) rfl (by kernel_rfl) (by first | exact (rfl : _ = 0) | exact (rfl : _ = 1) | exact (rfl : _ = 2) | exact (rfl : _ = 3) | exact (rfl : _ = 4) | exact (rfl : _ = 5)) ?_ | refine Plan.loadC (key := 1000) (q := 0) rfl rfl rfl rfl rfl rfl (obj_reads1 rfl) (by first | exact Try.underlying3 | exact Try.underlying9) (by rfl) (by decide) ?_ | refine J.seq (J.region mixed hI (by kernel_rfl) ?_) | refine J.seq (J.seq (J.region mixed hI (by kernel_rfl) ?_)) | refine J.condF rfl ?_ | refine J.condT rfl ?_ | refine J.skip ?_ | refine Plan.call (B := w0.heap.size) rfl rfl rfl (refField_fn e.kind) Try.func58 rfl rfl (hBb w0) (by repeat (first | exact Opnds.nil | refine Opnds.cons rfl (by exact Sub.refl _) ?_)) ?_ | refine Plan.call (B := w0.heap.size) rfl rfl rfl (refValue_fn e.kind) Try.func59 rfl rfl (hBb w0) (by repeat (first | exact Opnds.nil | refine Opnds.cons rfl (by exact Sub.refl _) ?_)) ?_ | refine Plan.call (B := w0.heap.size) rfl rfl rfl (refNum_fn e.kind) Try.func60 rfl rfl (hBb w0) (by repeat (first | exact Opnds.nil | refine Opnds.cons rfl (by exact Sub.refl _) ?_)) ?_ | refine Plan.call (B := w0.heap.size) rfl rfl rfl (refRef_fn e.kind) Try.func62 rfl rfl (hBb w0) (by repeat (first | exact Opnds.nil | refine Opnds.cons rfl (by exact Sub.refl _) ?_)) ?_ | refine Plan.loadAggC (key := 1000) (q := 0) (vs := [vi e.rr, vi e.rn]) rfl rfl rfl rfl rfl rfl (obj_reads rfl) Try.underlying42 rfl (by kernel_rfl) (by decide) ?_ | refine Plan.build (cells := #[vi 0, vi 0]) rfl rfl (ps := []) rfl Parts.nil (by kernel_rfl) ?_ | refine Plan.eqDot (decide (e.rr = 0 ∧ e.rn = 0)) (decide (e.rr = 0 ∧ e.rn = 0)) rfl rfl rfl rfl rfl hrr hrn in64_0 in64_0 (by simp) (.inl ⟨rfl, rfl⟩) ?_ | refine Plan.strs rfl rfl rfl rfl rfl rfl ?_ | refine Plan.boxC (key := 1000) rfl rfl rfl (by intro _ e; cases e; decide) rfl rfl hA fun _ => ?_ | refine J.condD rfl (fun _ => ?_) (fun _ => ?_) | refine J.condND rfl (fun _ => ?_) (fun _ => ?_) | refine Plan.splitD (fun _ => ?_) (fun _ => ?_) | refine Plan.splitND (fun _ => ?_) (fun _ => ?_) | refine Plan.splitN (fun _ => ?_) (fun _ => ?_))
  all_goals exact J.ret (Nrm.ret1 rfl (fun _ h => h) rfl fun B _ => Sub.of_eq (congrArg (fun b => Fa.ex (.bool b)) (by
    first
    | refine (decide_eq_true ?_).symm
    | refine (decide_eq_false ?_).symm
    | refine decide_eq_decide.2 ?_
    | refine beq_decide ?_
    | refine bne_decide ?_
    all_goals ((try simp only [fieldP, valueP, numP, refP, kindP, addP, dotP, hasP, canP, rightP, IntKind.wrap_i64] at *); first | omega | grind))))
end Go.Proofs.Ytepgphflnelpoaa
end

section
set_option linter.unusedSimpArgs false
set_option linter.unusedVariables false
set_option maxRecDepth 20000
namespace Go.Proofs.Ytepgphflnelpoaa
open Go.Free Go.RowKit Go.Proofs
set_option maxHeartbeats 8000000

theorem refRight_fn (e : EvV) (h : e.okV) : Spc Try.prog 45 [.ex (aggE e)] fun _ => .ex (.bool (decide (rightP e))) := by
  refine Spc.intro Try.func45 rfl (Nat.le_of_ble_eq_true rfl) fun w0 => ?_
  have hI := hIb w0
  have hA := Own.below w0
  have hrr := h.2.2.2.2.2.2.2.2.2.1
  have hrn := h.2.2.2.2.2.2.2.2.2.2
  refine J.heap0 1000 (newB w0) ?_
  have hn64 : -9223372036854775808 ≤ e.n ∧ e.n ≤ 9223372036854775807 := h.2.1
  repeat' (first | refine Plan.move rfl rfl rfl rfl ?_ | refine Plan.assign rfl rfl rfl rfl ?_ | refine Plan.skip rfl rfl ?_ | refine Plan.pick rfl rfl rfl rfl rfl ?_ | (refine Plan.ints rfl rfl rfl rfl rfl rfl ?_; (skip)) | refine Plan.un rfl rfl rfl rfl rfl ?_ | refine Plan.fieldC rfl rfl rfl rfl (by first | exact Try.underlying48 | exact Try.underlying46 | exact Try.underlying42) rfl (by kernel_rfl) (by first | exact (rfl : _ = 0) | exact (rfl : _ = 1) | exact (rfl : _ = 2) | exact (rfl : _ = 3) | exact (rfl : _ = 19) | exact (rfl : _ = 24)) ?_ | refine Plan.loadC (key := 1000) (q := 0) rfl rfl rfl rfl rfl rfl (obj_reads1 rfl) (by exact Try.underlying3) (by rfl) (by decide) ?_ | refine J.seq (J.region mixed hI (by kernel_rfl) ?_) | refine J.seq (J.seq (J.region mixed hI (by kernel_rfl) ?_)) | refine J.condT rfl ?_ | refine J.skip ?_ | refine Plan.call (B := w0.heap.size) rfl rfl rfl (refDot_fn e.r e.n) Try.func63 rfl rfl (hBb w0) (by repeat (first | exact Opnds.nil | refine Opnds.cons rfl (by exact Sub.refl _) ?_)) ?_ | refine Plan.call (B := w0.heap.size) rfl rfl rfl (refRightV_fn e.d) Try.func64 rfl rfl (hBb w0) (by repeat (first | exact Opnds.nil | refine Opnds.cons rfl (by exact Sub.refl _) ?_)) ?_ | refine Plan.call (B := w0.heap.size) rfl rfl rfl (refOp_fn e h) Try.func65 rfl rfl (hBb w0) (by repeat (first | exact Opnds.nil | refine Opnds.cons rfl (by exact Sub.refl _) ?_)) ?_ | refine Plan.call (B := w0.heap.size) rfl rfl rfl (refHas_fn e.d e.rr e.rn) Try.func66 rfl rfl (hBb w0) (by repeat (first | exact Opnds.nil | refine Opnds.cons rfl (by exact Sub.refl _) ?_)) ?_ | refine Plan.indexArr (off := 3 + e.r.toNat) (len := 16) (sz := 1) rfl rfl rfl rfl rfl Try.underlying44 (by kernel_rfl) (by exact dot0 (by assumption)) (by exact dot16 (by assumption)) (by simp) ?_ | refine Plan.loadC (key := 1000) (q := 0) rfl rfl rfl rfl rfl rfl (obj_reads1 (enc_d e (by exact dotN (by assumption)))) Try.underlying3 rfl (by decide) ?_ | refine Plan.loadAggC (key := 1000) (q := 0) (vs := vList e.d) rfl rfl rfl rfl rfl rfl (obj_reads rfl) Try.underlying44 rfl (by kernel_rfl) (by decide) ?_ | refine Plan.loadAggC (key := 1000) (q := 0) (vs := e.op) rfl rfl rfl rfl rfl rfl (obj_reads rfl) Try.underlying46 rfl (by kernel_rfl) (by decide) ?_ | refine Plan.loadAggC (key := 1000) (q := 0) (vs := [vi e.r, vi e.n]) rfl rfl rfl rfl rfl rfl (obj_reads rfl) Try.underlying42 rfl (by kernel_rfl) (by decide) ?_ | refine Plan.loadAggC (key := 1000) (q := 0) (vs := [vi e.rr, vi e.rn]) rfl rfl rfl rfl rfl rfl (obj_reads rfl) Try.underlying42 rfl (by kernel_rfl) (by decide) ?_ | refine Plan.build (cells := #[vi 0, vi 0]) rfl rfl (ps := []) rfl Parts.nil (by kernel_rfl) ?_ | refine Plan.eqDot (decide (e.rr = 0 ∧ e.rn = 0)) (decide (e.rr = 0 ∧ e.rn = 0)) rfl rfl rfl rfl rfl hrr hrn in64_0 in64_0 (by simp) (.inl ⟨rfl, rfl⟩) ?_ | refine Plan.boxC (key := 1000) rfl rfl rfl (by intro _ e; cases e; decide) rfl rfl hA fun _ => ?_ | refine J.condD rfl (fun _ => ?_) (fun _ => ?_) | refine J.condND rfl (fun _ => ?_) (fun _ => ?_) | refine Plan.splitD (fun _ => ?_) (fun _ => ?_) | refine Plan.splitND (fun _ => ?_) (fun _ => ?_))
  all_goals exact J.ret (Nrm.ret1 rfl (fun _ h => h) rfl fun B _ => Sub.of_eq (congrArg (fun b => Fa.ex (.bool b)) (by
    first
    | refine (decide_eq_true ?_).symm
    | refine (decide_eq_false ?_).symm
    | refine decide_eq_decide.2 ?_
    | refine beq_decide ?_
    | refine bne_decide ?_
    all_goals ((try simp only [fieldP, valueP, numP, refP, kindP, addP, dotP, hasP, canP, rightP, IntKind.wrap_i64] at *); first | omega | grind))))
end Go.Proofs.Ytepgphflnelpoaa
end

section
set_option linter.unusedSimpArgs false
set_option linter.unusedVariables false
set_option maxRecDepth 20000
namespace Go.Proofs.Ytepgphflnelpoaa
open Go.Free Go.RowKit Go.Proofs
set_option maxHeartbeats 4000000

def evA : EvV := ⟨1, 1, 9, fun _ => 0, 1, [107], [], [118], 0, 0, 0⟩
theorem evA_ok : evA.okV := by refine ⟨?_, ?_, ?_, fun i _ => ?_, ?_, ?_, ?_, ?_, ?_, ?_, ?_⟩ <;> simp [evA, in64]
theorem rightV_zero : rightVP (fun _ => 0) := fun i _ => by simp
theorem evA_right : rightP evA := by
  refine ⟨by decide, by decide, by decide, rightV_zero, by decide, by decide, by decide⟩
theorem num_small {u : Nat} (h : u < 128) : num u = [UInt8.ofNat u] := by
  unfold num; rw [Nat.div_eq_of_lt h, numHi_zero, lastD, Nat.mod_eq_of_lt h]; rfl
theorem evA_enc : encB evA = [1, 1, 9, 0, 0, 0, 0, 0, 0, 0, 0, 0, 0, 0, 0, 0, 0, 0, 0, 1, 1, 107, 1, 118] := by
  simp [encB, encB4, encB3, encB2, encB1, fieldP, valueP, numP, refP, evA, nums, encNs, numI, txt, num_small]
end Go.Proofs.Ytepgphflnelpoaa
end
