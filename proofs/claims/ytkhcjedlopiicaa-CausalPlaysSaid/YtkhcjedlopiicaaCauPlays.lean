/-
  The law CausalPlays returns true for all arguments.
-/
import Derived.Test.YtkhcjedlopiicaaCauModel
set_option linter.unusedSimpArgs false
set_option linter.unusedVariables false
set_option maxRecDepth 20000
namespace Go.Free
open Go.RowKit
def sliceN (m : Nat) : Fa := .is ⟨fun _ v => ∃ B cap, v = .slice B m cap, fun _ _ _ _ h => h⟩
section
variable {P : Program} {ops : Array Oper} {Q : Exit → Act → World → Prop} {n : Nat} {I : World → Prop} {k i : Nat} {E : Env} {o : Oper} {d : Bool} {A : Nat → Prop} {H : List Chunk} {key : Nat}
/-- A load of a slice of which the length alone is known. -/
theorem Plan.loadN {t : TypeId} {u : TypeDesc} {x : Operand} {β m : Nat} {D : Option Addr × Nat → Chunk} (ho : ops[i]? = some o) (hop : o.op = .load t x) (hg : wantB ops E o = some true)
    (hx : opF E x = some (.ex (.pointer (some ⟨β, 0, none⟩)))) (hk : look E key = some (heap A H)) (hH : Ent (allC H) (Free.exC fun p : Option Addr × Nat => Free.sepC (obj β [.slice p.1 m p.2]) (D p))) (hu : P.underlying t = some u) (hna : aggB u = false) (hkn : n ≤ key)
    (h : Plan P ops Q n I d k (i + 1) (setE o.dst (sliceN m) E)) : Plan P ops Q n I d (k + 1) i E :=
  Plan.step ho (Step.runK ho hg fun a w _ hs' hK => by
    have e1 := hs' x (by simp [hop, Op.operands]) _ hx
    simp only [Fa.den] at e1
    obtain ⟨φ, hL, _⟩ := hK key hkn _ hk
    obtain ⟨G, ⟨p, G1, G2, _, _, hob, _⟩, _⟩ := hH w _ hL.all
    have hc := (obj_reads1 (β := β) (off := 0) (cs := [.slice p.1 m p.2]) rfl) w G1 hob 0 _ rfl
    simp only [Nat.add_zero] at hc
    refine ⟨.slice p.1 m p.2, w, ?_, Below.refl _ _, ⟨p.1, p.2, rfl⟩⟩
    have hagg : (isAgg t).run P w = .ok false w := by
      cases u <;> simp [aggB] at hna <;> simp [isAgg, run_underlying hu]
    simp [execOp, hop, e1, Instr.loadAt, Instr.sureAddr, loadVar, hagg, run_load, hc]) h
theorem Plan.lenN {t e : TypeId} {x : Operand} {m : Nat} (ho : ops[i]? = some o) (hop : o.op = .call { callee := .builtin .len, args := #[x], argTypes := #[t] }) (hg : wantB ops E o = some true)
    (hx : opF E x = some (sliceN m)) (hu : P.underlying t = some (.slice e)) (h : Plan P ops Q n I d k (i + 1) (setE o.dst (.ex (.int .i64 m)) E)) : Plan P ops Q n I d (k + 1) i E :=
  Plan.step ho (Step.run ho hg fun a w hI hs' => by
    obtain ⟨B, cap, hv⟩ := hs' x (by simp [hop, Op.operands, Call.operands]) _ hx
    refine ⟨.int .i64 m, w, ?_, Below.refl _ _, by simp [Fa.den]⟩
    have hr : (Builtin.len_ #[t] o.type #[.slice B m cap]).run P w = .ok (goInt m) w := by simp [Builtin.len_, run_underlying hu]
    simp only [execOp, hop, resolve, invoke, builtin, List.map_toArray, List.map_cons, List.map_nil, hv, Sem.run_bind, Sem.run_pure, Result.andThen_ok, hr]
    rfl) h
end
end Go.Free
namespace Go.Proofs.Ytkhcjedlopiicaa
open Go.Free Go.RowKit Go.Proofs
set_option maxHeartbeats 8000000

structure OpC where
  e : EvV
  v : Nat → Int
def OpC.enc (o : OpC) : List Value := o.e.enc ++ vList o.v
def oc0 : OpC := ⟨ev0, zeroV⟩
theorem encOC (o : OpC) : o.enc.length = 42 := rfl
abbrev opsC (sc : List OpC) : Fa := row 42 (sc.flatMap OpC.enc)
theorem eltOpC : Elt Try.prog 69 88 (.agg oc0.enc.toArray) 42 360 := Elt.mk' Try.underlying69 (by kernel_rfl) rfl (by decide) (by decide)
theorem sameR_fn (L : List EvV) (hl : L.length ≤ 1000000) (hok : ∀ x ∈ L, x.okV) (O O2 : Option Addr) (c c2 : Nat) : SpcR Try.prog 37 [.ex (.slice O L.length c), .ex (.slice O2 L.length c2)] (sepC (rowEv O L.length c (L.flatMap EvV.enc)) (rowEv O2 L.length c2 (L.flatMap EvV.enc))) fun _ => .ex (.bool true) := fun w args F hd hc => by
  obtain ⟨G, K, _, _, h1, h2⟩ := hc
  refine sameE_fn L hl hok w args ?_
  simp only [Fa.dens, Fa.den] at hd
  obtain ⟨v1, r1, rfl, rfl, v2, r2, rfl, rfl, rfl⟩ := hd
  exact ⟨_, _, rfl, row_rowH h1, _, _, rfl, row_rowH h2, rfl⟩
theorem left_len64 {v : Nat → Int} {B : List (Dt × EvV)} (hs : heldB B) (h : B.length ≤ 64) : (toldE v B).2.length ≤ 64 := by
  have := told_len (v := v) hs; omega
def cpE (w0 : World) (u : Value) (n : Nat) (b w : Nat) (i : Nat) (B : List (Dt × EvV)) : Env :=
  [(0, .ex u), (5, .ex (ptr b)), (6, .ex (ptr w)), (25, .ex (vi n)), (26, .ex (vi i)), (1000, heap (newB w0) [bagCE b B, refB w (B.map (·.2))])]
def cpZ (w0 : World) (sc : List OpC) (w : Nat) (b : Nat) : Env :=
  [(0, old w0 (opsC sc)), (5, .ex (ptr b)), (6, .ex (ptr w)), (1000, heap (newB w0) [bagCE b [], refB w []])]
theorem lawCauPlays (sc : List OpC) (z : Bool) (hl : sc.length ≤ 9223372036854775807) (hok : ∀ o ∈ sc, o.e.okV ∧ okV o.v) :
    Spc Try.prog 9 [opsC sc, .ex (.bool z)] fun _ => .ex (.bool true) := by
  refine Spc.intro Try.func9 rfl (Nat.le_of_ble_eq_true rfl) fun w0 => ?_
  have hI := hIb w0
  have hA := Own.below w0
  refine J.heap0 1000 (newB w0) ?_
  repeat (first | refine Plan.assign rfl rfl rfl rfl ?_ | refine J.seq (J.region mixed hI (by kernel_rfl) ?_) | refine J.seq (J.seq (J.region mixed hI (by kernel_rfl) ?_)))
  refine Plan.call (B := w0.heap.size) rfl rfl rfl (awakeC_fn) Try.func35 rfl rfl (hBb w0) (by repeat (exact Opnds.nil)) ?_
  repeat (first | refine Plan.move rfl rfl rfl rfl ?_ | refine Plan.un rfl rfl rfl rfl rfl ?_)
  refine Plan.lenRow (m := sc.length) rfl rfl rfl rfl (Sub.old fun _ h => h) Try.underlying69 (by rw [flat_len encOC]) (by decide) ?_
  repeat (first | refine Plan.pick rfl rfl rfl rfl rfl ?_ | (refine Plan.ints rfl rfl rfl rfl rfl rfl ?_; (skip)))
  refine J.condD rfl (fun hc => ?_) (fun hc => ?_)
  · repeat (refine J.seq (J.region mixed hI (by kernel_rfl) ?_))
    refine Plan.call (B := w0.heap.size) rfl rfl rfl (awakeC_fn) Try.func35 rfl rfl (hBb w0) (by repeat (exact Opnds.nil)) ?_
    repeat (refine Plan.assign rfl rfl rfl rfl ?_)
    exact J.ret (Nrm.ret1 rfl (fun _ h => h) rfl fun B _ => Sub.refl _)
  have hsm : sc.length ≤ 150 := by omega
  repeat (first | refine J.seq (J.region mixed hI (by kernel_rfl) ?_) | refine J.skip ?_)
  refine Plan.callN (key := 1000) rfl rfl rfl (newC_fn) Try.func36 rfl rfl (by intro _ e; cases e; decide) (by repeat (exact Opnds.nil)) rfl hA ?_
  intro b _
  refine Plan.build rfl rfl rfl Parts.nil (cells := #[.slice none 0 0]) (by kernel_rfl) ?_
  refine Plan.boxC (key := 1000) rfl rfl rfl (by intro _ e; cases e; decide) rfl rfl hA fun w => ?_
  repeat (refine Plan.assign rfl rfl rfl rfl ?_)
  refine J.nilRow (key := 1000) 86 26 rfl ?_
  refine J.regroup (key := 1000) [bagCE b [], refB w []] rfl (Ent.sep (Ent.refl _) ((refB_close (l := []) (B := none) (cap := 0)).trans Ent.addEmp)) ?_
  refine J.seqMid (σ := Nat) (fun b' => cpZ w0 sc w b') (fun _ => True) ?_ ?_
  · repeat (first | refine Plan.move rfl rfl rfl rfl ?_ | refine J.seq (J.region mixed hI (by kernel_rfl) ?_))
    cases z with
    | true =>
      repeat (first | refine J.region mixed hI (by kernel_rfl) ?_ | refine J.condT rfl ?_)
      refine Plan.build rfl rfl rfl Parts.nil (cells := #[.slice none 0 0]) (by kernel_rfl) ?_
      refine Plan.boxC (key := 1000) rfl rfl rfl (by intro _ e; cases e; decide) rfl rfl hA fun b' => ?_
      repeat (refine Plan.assign rfl rfl rfl rfl ?_)
      refine Nrm.mid b' trivial (Weak.cons rfl (Sub.refl _) (Weak.cons rfl (Sub.refl _) (Weak.cons rfl (Sub.refl _) (Weak.cons rfl (Sub.heap ?_) Weak.nil))))
      exact (Ent.pickC [2, 1] rfl rfl).trans (Ent.sep (Ent.addEmp.trans ((Ent.sep (Ent.refl _) Ent.nilRow).trans (Ent.ex (none, 0) (Ent.refl _)))) (Ent.refl _))
    | false =>
      repeat (first | refine J.condF rfl ?_ | refine J.skip ?_)
      exact Nrm.mid b trivial (by repeat (first | exact Weak.nil | refine Weak.cons rfl (Sub.refl _) ?_))
  intro b _
  repeat (first | refine Plan.move rfl rfl rfl rfl ?_ | refine Plan.eqlPtr rfl rfl rfl rfl (by kernel_rfl) ?_ | refine J.seq (J.seq (J.region mixed hI (by kernel_rfl) ?_)) | refine J.condF rfl ?_ | refine J.skip ?_)
  refine Plan.lenRow (m := sc.length) rfl rfl rfl rfl (Sub.old fun _ h => h) Try.underlying69 (by rw [flat_len encOC]) (by decide) ?_
  repeat (refine Plan.move rfl rfl rfl rfl ?_)
  refine J.nameOld (t := 0) rfl fun u hu => ?_
  refine J.block (J.loop (fun s : Nat × List (Dt × EvV) => cpE w0 u sc.length b w s.1 s.2) (fun s => s.1 ≤ sc.length ∧ heldB s.2 ∧ s.2.length ≤ 64) (fun s => sc.length - s.1) (0, []) ⟨Nat.zero_le _, held_nil, by simp⟩ ?_ ?_)
  · repeat (first | exact Weak.nil | refine Weak.cons rfl (Sub.refl _) ?_)
  rintro ⟨i, B⟩ ⟨hi, hB, hBl⟩
  simp only at hi hB hBl
  change J _ _ _ _ _ (cpE w0 u sc.length b w i B)
  have hBb : bagOf (B.map (·.2)) = B := bagOf_back fun x hx => (hB.2 x hx).1
  have hBm : (B.map (·.2)).length = B.length := by rw [List.length_map]
  repeat (first | (refine Plan.ints rfl rfl rfl rfl rfl rfl ?_; (skip)) | refine J.seq (J.region mixed hI (by kernel_rfl) ?_))
  refine J.seq (J.condD rfl (fun hc => ?_) (fun hc => ?_))
  · have hlt : i < sc.length := by omega
    obtain ⟨o, ho⟩ : ∃ o, o = sc[i] := ⟨_, rfl⟩
    have hoM : o ∈ sc := by rw [ho]; exact List.getElem_mem hlt
    obtain ⟨hoe, hov⟩ := hok o hoM
    have hu' : rowH 42 (sc.flatMap OpC.enc) w0 u := hu
    obtain ⟨A0, m0, cs, hu1, hm1, hm2, hm3, hnil, hcell⟩ := hu'
    obtain rfl : m0 = sc.length := by rw [flat_len encOC] at hm3; omega
    have hcut : (sc.flatMap OpC.enc).drop (i * 42) = o.enc ++ (sc.drop (i + 1)).flatMap OpC.enc := by
      rw [flat_split sc i, List.drop_left' (by rw [flat_len encOC, List.length_take, Nat.min_eq_left (by omega)]), ← List.getElem_cons_drop (h := hlt), List.flatMap_cons, ← ho]
    have hat : ∀ (j : Nat) x, o.enc[j]? = some x → (sc.flatMap OpC.enc)[i * 42 + j]? = some x := fun j x hx => by
      rw [← List.getElem?_drop, hcut, List.getElem?_append_left (List.getElem?_eq_some_iff.1 hx).1]; exact hx
    obtain ⟨ad, hA0, hcd⟩ := hcell (i * 42 + 0) (vi o.e.r) (hat 0 _ rfl)
    subst hA0
    obtain ⟨β0, o0, ov⟩ := ad
    obtain rfl : ov = none := by
      have hz : (sc.flatMap OpC.enc)[0]? = some (sc.flatMap OpC.enc)[0] := List.getElem?_eq_getElem (by rw [flat_len encOC]; omega)
      obtain ⟨ad0, hA0, hc0⟩ := hcell 0 _ hz
      cases hA0
      cases ov with
      | none => rfl
      | some q =>
        exfalso
        revert hc0
        simp only [World.cell?, Addr.add, if_pos]
        split <;> simp
    subst hu1
    have hcw : ∀ w, Below w0.heap.size w0 w → ∀ (j : Nat) x, o.enc[j]? = some x → w.cell? ⟨β0, o0 + i * 42 + j, none⟩ = some x := fun w hb j x hx => by
      obtain ⟨A1, m1, c1, hv1, _, _, _, _, hc1⟩ := rowH_mono hb hu
      cases hv1
      obtain ⟨ad1, hA1, hx1⟩ := hc1 (i * 42 + j) x (hat j x hx)
      cases hA1
      rw [add_at] at hx1
      rw [Nat.add_assoc]; exact hx1
    have hce : ∀ w, Below w0.heap.size w0 w → ∀ (j : Nat) x, o.e.enc[j]? = some x → w.cell? ⟨β0, o0 + i * 42 + j, none⟩ = some x := fun w hb j x hx => hcw w hb j x (by
      unfold OpC.enc; rw [List.getElem?_append_left (List.getElem?_eq_some_iff.1 hx).1]; exact hx)
    have hcv : ∀ w, Below w0.heap.size w0 w → ∀ (j : Nat) x, (vList o.v)[j]? = some x → w.cell? ⟨β0, o0 + i * 42 + 26 + j, none⟩ = some x := fun w hb j x hx => by
      have := hcw w hb (26 + j) x (by unfold OpC.enc; rw [List.getElem?_append_right (by rw [encE]; omega), encE, Nat.add_sub_cancel_left]; exact hx)
      rw [← Nat.add_assoc] at this; exact this
    have hC := held_come (e := o.e) (v := o.v) hB hoe
    have hCl := len_come64 (e := o.e) (v := o.v) hBl
    have hth := told_held (v := o.v) hC
    have hto := told_ok (v := o.v) hC
    have htl := told_len (v := o.v) hC
    have hro := refOffer_fn w (B.map (·.2)) (by rw [hBb]; exact hB) (by omega) o.e hoe o.v hov
    rw [hBb] at hro
    repeat (refine J.skip ?_)
    refine J.seq (J.block ?_)
    refine J.seq (J.region mixed hI (by kernel_rfl) ?_)
    repeat (first | refine Plan.move rfl rfl rfl rfl ?_ | refine Plan.assign rfl rfl rfl rfl ?_)
    refine J.seq (J.loose2 [(12, ptr w), (13, .slice (some ⟨β0, o0, none⟩) sc.length cs), (14, vi i), (15, .pointer (some ⟨β0, o0 + i * 42, none⟩)), (16, .pointer (some ⟨β0, o0 + i * 42, none⟩)), (17, aggE o.e), (18, .slice (some ⟨β0, o0, none⟩) sc.length cs), (19, vi i), (20, .pointer (some ⟨β0, o0 + i * 42, none⟩)), (21, .pointer (some ⟨β0, o0 + i * 42 + 26, none⟩)), (22, aggV o.v)] [(0, .ex (.slice (some ⟨β0, o0, none⟩) sc.length cs)), (6, .ex (ptr w)), (7, .ex (vi i))] mixed hI rfl rfl rfl (by kernel_rfl) (by kernel_rfl) (by kernel_rfl) rfl rfl (fun ⟨_, _, h⟩ => h) (fun _ _ _ _ h => h) (by repeat (first | exact Weak.nil | refine Weak.cons rfl (Sub.refl _) ?_)) ?_ ?_)
    · refine Gives.cons [(0, .ex (.slice (some ⟨β0, o0, none⟩) sc.length cs)), (6, .ex (ptr w)), (7, .ex (vi i))] (by kernel_rfl) rfl (by kernel_rfl) (Plan.move rfl rfl rfl rfl (Plan.gives rfl)) ?_
      refine Gives.cons [(0, .ex (.slice (some ⟨β0, o0, none⟩) sc.length cs)), (6, .ex (ptr w)), (7, .ex (vi i))] (by kernel_rfl) rfl (by kernel_rfl) (Plan.move rfl rfl rfl rfl (Plan.gives rfl)) ?_
      refine Gives.cons [(0, .ex (.slice (some ⟨β0, o0, none⟩) sc.length cs)), (6, .ex (ptr w)), (7, .ex (vi i))] (by kernel_rfl) rfl (by kernel_rfl) (Plan.move rfl rfl rfl rfl (Plan.gives rfl)) ?_
      refine Gives.cons [(42, .ex (.slice (some ⟨β0, o0, none⟩) sc.length cs)), (43, .ex (vi i)), (0, .ex (.slice (some ⟨β0, o0, none⟩) sc.length cs)), (6, .ex (ptr w)), (7, .ex (vi i))] (by kernel_rfl) rfl (by kernel_rfl) (Plan.indexC (off := o0 + i * 42) rfl rfl rfl rfl rfl eltOpC hlt rfl (Plan.gives rfl)) ?_
      refine Gives.cons [(42, .ex (.slice (some ⟨β0, o0, none⟩) sc.length cs)), (43, .ex (vi i)), (44, .ex (.pointer (some ⟨β0, o0 + i * 42, none⟩))), (0, .ex (.slice (some ⟨β0, o0, none⟩) sc.length cs)), (6, .ex (ptr w)), (7, .ex (vi i))] (by kernel_rfl) rfl (by kernel_rfl) (Plan.fieldC (off := o0 + i * 42) rfl rfl rfl rfl (by exact Try.underlying88) rfl (by kernel_rfl) rfl (Plan.gives rfl)) ?_
      refine Gives.cons [(42, .ex (.slice (some ⟨β0, o0, none⟩) sc.length cs)), (43, .ex (vi i)), (44, .ex (.pointer (some ⟨β0, o0 + i * 42, none⟩))), (45, .ex (.pointer (some ⟨β0, o0 + i * 42, none⟩))), (0, .ex (.slice (some ⟨β0, o0, none⟩) sc.length cs)), (6, .ex (ptr w)), (7, .ex (vi i))] (by kernel_rfl) rfl (by kernel_rfl) (Plan.loadAggI (vs := o.e.enc) rfl rfl rfl rfl hce Try.underlying86 rfl (by rw [encE]; kernel_rfl) (Plan.gives rfl)) ?_
      refine Gives.cons [(0, .ex (.slice (some ⟨β0, o0, none⟩) sc.length cs)), (6, .ex (ptr w)), (7, .ex (vi i))] (by kernel_rfl) rfl (by kernel_rfl) (Plan.move rfl rfl rfl rfl (Plan.gives rfl)) ?_
      refine Gives.cons [(0, .ex (.slice (some ⟨β0, o0, none⟩) sc.length cs)), (6, .ex (ptr w)), (7, .ex (vi i))] (by kernel_rfl) rfl (by kernel_rfl) (Plan.move rfl rfl rfl rfl (Plan.gives rfl)) ?_
      refine Gives.cons [(47, .ex (.slice (some ⟨β0, o0, none⟩) sc.length cs)), (48, .ex (vi i)), (0, .ex (.slice (some ⟨β0, o0, none⟩) sc.length cs)), (6, .ex (ptr w)), (7, .ex (vi i))] (by kernel_rfl) rfl (by kernel_rfl) (Plan.indexC (off := o0 + i * 42) rfl rfl rfl rfl rfl eltOpC hlt rfl (Plan.gives rfl)) ?_
      refine Gives.cons [(47, .ex (.slice (some ⟨β0, o0, none⟩) sc.length cs)), (48, .ex (vi i)), (49, .ex (.pointer (some ⟨β0, o0 + i * 42, none⟩))), (0, .ex (.slice (some ⟨β0, o0, none⟩) sc.length cs)), (6, .ex (ptr w)), (7, .ex (vi i))] (by kernel_rfl) rfl (by kernel_rfl) (Plan.fieldC (off := o0 + i * 42 + 26) rfl rfl rfl rfl (by exact Try.underlying88) rfl (by kernel_rfl) rfl (Plan.gives rfl)) ?_
      exact Gives.cons [(47, .ex (.slice (some ⟨β0, o0, none⟩) sc.length cs)), (48, .ex (vi i)), (49, .ex (.pointer (some ⟨β0, o0 + i * 42, none⟩))), (50, .ex (.pointer (some ⟨β0, o0 + i * 42 + 26, none⟩))), (0, .ex (.slice (some ⟨β0, o0, none⟩) sc.length cs)), (6, .ex (ptr w)), (7, .ex (vi i))] (by kernel_rfl) rfl (by kernel_rfl) (Plan.loadAggI (vs := vList o.v) rfl rfl rfl rfl hcv Try.underlying42 rfl (by kernel_rfl) (Plan.gives rfl)) Gives.nil
    repeat (refine Plan.move rfl rfl rfl rfl ?_)
    refine Plan.indexC (off := o0 + i * 42) rfl rfl rfl rfl rfl eltOpC hlt rfl ?_
    refine Plan.fieldC (off := o0 + i * 42) rfl rfl rfl rfl (by exact Try.underlying88) rfl (by kernel_rfl) rfl ?_
    refine Plan.loadAggI (vs := o.e.enc) rfl rfl rfl rfl hce Try.underlying86 rfl (by rw [encE]; kernel_rfl) ?_
    repeat (refine Plan.move rfl rfl rfl rfl ?_)
    refine Plan.indexC (off := o0 + i * 42) rfl rfl rfl rfl rfl eltOpC hlt rfl ?_
    refine Plan.fieldC (off := o0 + i * 42 + 26) rfl rfl rfl rfl (by exact Try.underlying88) rfl (by kernel_rfl) rfl ?_
    refine Plan.loadAggI (vs := vList o.v) rfl rfl rfl rfl hcv Try.underlying42 rfl (by kernel_rfl) ?_
    refine Plan.callC (key := 1000) (q := 0) rfl rfl rfl (offer_fn b B hB hBl o.e hoe o.v hov) Try.func38 rfl rfl (by intro _ e; cases e; decide) (by repeat (first | exact Opnds.nil | refine Opnds.cons rfl (by exact Sub.refl _) ?_)) rfl hA rfl ?_
    rintro ⟨O, oc⟩ _
    repeat (refine Plan.assign rfl rfl rfl rfl ?_)
    refine Plan.callC (key := 1000) (q := 1) rfl rfl rfl (hro) Try.func39 rfl rfl (by intro _ e; cases e; decide) (by repeat (first | exact Opnds.nil | refine Opnds.cons rfl (by exact Sub.refl _) ?_)) rfl hA rfl ?_
    rintro ⟨O2, oc2⟩ _
    obtain ⟨out, hout⟩ : ∃ out, out = (toldE o.v (comeE o.e o.v B)).1 := ⟨_, rfl⟩
    obtain ⟨B', hB'⟩ : ∃ B', B' = (toldE o.v (comeE o.e o.v B)).2 := ⟨_, rfl⟩
    rw [← hout, ← hB'] at htl
    rw [← hout] at hto
    rw [← hB'] at hth
    rw [← hout, ← hB']
    refine Plan.callRG (key := 1000) (B := 0) rfl rfl rfl (sameR_fn out (by omega) (fun x hx => (hto x hx).2) O O2 oc oc2) Try.func37 rfl rfl (fun _ _ => Nat.zero_le _) (by repeat (first | exact Opnds.nil | refine Opnds.cons rfl (by exact Sub.refl _) ?_)) rfl (Ent.sep Ent.right (Ent.left.trans Ent.right)) (by decide) ?_
    repeat (first | refine Plan.move rfl rfl rfl rfl ?_ | refine Plan.un rfl rfl rfl rfl rfl ?_)
    refine Plan.callRG (key := 1000) (B := 0) rfl rfl rfl (lenC_fn b B') Try.func40 rfl rfl (fun _ _ => Nat.zero_le _) (by repeat (first | exact Opnds.nil | refine Opnds.cons rfl (by exact Sub.refl _) ?_)) rfl (Ent.left.trans Ent.left) (by decide) ?_
    repeat (first | refine Plan.move rfl rfl rfl rfl ?_ | refine Plan.nilOk rfl rfl rfl rfl ?_ | refine Plan.fieldC rfl rfl rfl rfl (by first | exact Try.underlying86 | exact Try.underlying75) rfl (by kernel_rfl) (by exact (rfl : _ = 0)) ?_)
    have hBm' : (B'.map (·.2)).length = B'.length := by rw [List.length_map]
    have hE : Ent (refB w (B'.map (·.2))) (Free.exC fun p : Option Addr × Nat => Free.sepC (obj w [.slice p.1 (B'.map (·.2)).length p.2]) (rowEv p.1 (B'.map (·.2)).length p.2 ((B'.map (·.2)).flatMap EvV.enc))) := Ent.refl _
    rw [hBm'] at hE
    refine Plan.loadN (key := 1000) (β := w) (m := B'.length) rfl rfl rfl rfl rfl (Ent.right.trans (Ent.left.trans (Ent.left.trans hE))) Try.underlying73 rfl (by decide) ?_
    refine Plan.lenN rfl rfl rfl rfl Try.underlying73 ?_
    repeat (first | refine Plan.pick rfl rfl rfl rfl rfl ?_ | (refine Plan.ints rfl rfl rfl rfl rfl rfl ?_; (skip)))
    refine Plan.boolv (y := false) (by simp) ?_
    repeat (first | refine Plan.move rfl rfl rfl rfl ?_ | (refine Plan.ints rfl rfl rfl rfl rfl rfl ?_; (refine Plan.int (i64r (by omega)) ?_)) | refine J.region mixed hI (by kernel_rfl) ?_ | refine J.condF rfl ?_ | refine J.skip ?_)
    refine Plan.int (y := ((i + 1 : Nat) : Int)) (by omega) ?_
    repeat (fail)
    refine Nrm.next (ok := fun s : Nat × List (Dt × EvV) => s.1 ≤ sc.length ∧ heldB s.2 ∧ s.2.length ≤ 64) (s := (i, B)) (i + 1, B') ⟨by simp only; omega, hth, by simp only; omega⟩ (by simp only; omega) ?_
    exact Weak.cons rfl (Sub.refl _) (Weak.cons rfl (Sub.refl _) (Weak.cons rfl (Sub.refl _) (Weak.cons rfl (Sub.refl _) (Weak.cons rfl (Sub.refl _) (Weak.cons rfl (Sub.heap (Ent.sep Ent.left (Ent.sep Ent.left (Ent.refl _)))) Weak.nil)))))
  refine J.exit ?_
  repeat (first | refine Plan.move rfl rfl rfl rfl ?_ | refine J.seq (J.region mixed hI (by kernel_rfl) ?_))
  refine Plan.callR (key := 1000) (B := 0) (q := 0) rfl rfl rfl (lenC_fn b B) Try.func40 rfl rfl (fun _ _ => Nat.zero_le _) (by repeat (first | exact Opnds.nil | refine Opnds.cons rfl (by exact Sub.refl _) ?_)) rfl rfl (by decide) ?_
  repeat (first | refine Plan.move rfl rfl rfl rfl ?_ | refine Plan.nilOk rfl rfl rfl rfl ?_ | refine Plan.fieldC rfl rfl rfl rfl (by first | exact Try.underlying86 | exact Try.underlying75) rfl (by kernel_rfl) (by exact (rfl : _ = 0)) ?_)
  have hE : Ent (refB w (B.map (·.2))) (Free.exC fun p : Option Addr × Nat => Free.sepC (obj w [.slice p.1 (B.map (·.2)).length p.2]) (rowEv p.1 (B.map (·.2)).length p.2 ((B.map (·.2)).flatMap EvV.enc))) := Ent.refl _
  rw [hBm] at hE
  refine Plan.loadN (key := 1000) (β := w) (m := B.length) rfl rfl rfl rfl rfl (Ent.right.trans (Ent.left.trans hE)) Try.underlying73 rfl (by decide) ?_
  refine Plan.lenN rfl rfl rfl rfl Try.underlying73 ?_
  repeat (first | refine Plan.assign rfl rfl rfl rfl ?_ | (refine Plan.ints rfl rfl rfl rfl rfl rfl ?_; (skip)))
  refine Plan.boolv (y := true) (by simp) ?_
  repeat (fail)
  exact J.ret (Nrm.ret1 rfl (fun _ h => h) rfl fun B _ => Sub.refl _)
theorem cells_split : ∀ {k1 k2 : List Kd} {c : List Value}, CellsOk (k1 ++ k2) c → ∃ c1 c2, c = c1 ++ c2 ∧ CellsOk k1 c1 ∧ CellsOk k2 c2
  | [], _, c, h => ⟨[], c, rfl, rfl, h⟩
  | k :: r, _, _, ⟨v, r', h1, h2, h3⟩ => by
    obtain ⟨c1, c2, rfl, h4, h5⟩ := cells_split h3
    exact ⟨v :: c1, c2, by rw [h1]; rfl, ⟨v, c1, rfl, h2, h4⟩, h5⟩
def kdsOp18 : List Kd := kdsEvent ++ List.replicate 16 (.int .i64)
theorem opC_of {c : List Value} (h : CellsOk kdsOp18 c) : ∃ o : OpC, c = o.enc ∧ o.e.okV ∧ okV o.v := by
  obtain ⟨c1, c2, rfl, h1, h2⟩ := cells_split h
  obtain ⟨e, rfl, he⟩ := ev_of h1
  obtain ⟨v, rfl, hv⟩ := vvC_of h2
  exact ⟨⟨e, v⟩, rfl, he, hv⟩
theorem opsC_of : ∀ (ls : List (List Value)), (∀ c ∈ ls, CellsOk kdsOp18 c) → ∃ sc : List OpC, sc.length = ls.length ∧ ls.flatten = sc.flatMap OpC.enc ∧ ∀ o ∈ sc, o.e.okV ∧ okV o.v
  | [], _ => ⟨[], rfl, rfl, by simp⟩
  | c :: r, h => by
    obtain ⟨o, rfl, ho⟩ := opC_of (h c List.mem_cons_self)
    obtain ⟨sc, h1, h2, h3⟩ := opsC_of r (fun c hc => h c (List.mem_cons_of_mem _ hc))
    exact ⟨o :: sc, by simp [h1], by simp [h2], fun x hx => by rcases List.mem_cons.1 hx with rfl | hx; exact ho; exact h3 x hx⟩
theorem lawCauPlaysC (ls : List (List Value)) (z : Bool) (hl : ls.length ≤ 9223372036854775807) (hc : ∀ c ∈ ls, CellsOk kdsOp18 c) :
    Spc Try.prog 9 [row 42 ls.flatten, .ex (.bool z)] fun _ => .ex (.bool true) := by
  obtain ⟨sc, h1, h2, h3⟩ := opsC_of ls hc
  rw [h2]
  exact lawCauPlays sc z (by omega) h3
end Go.Proofs.Ytkhcjedlopiicaa
