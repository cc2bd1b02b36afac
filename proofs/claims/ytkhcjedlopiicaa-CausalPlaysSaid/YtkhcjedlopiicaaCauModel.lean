/-
  The model's buffers: events compared, keep.
-/
import Derived.Test.YtkhcjedlopiicaaCauOnce
set_option linter.unusedSimpArgs false
set_option linter.unusedVariables false
set_option maxRecDepth 20000
namespace Go.Proofs.Ytkhcjedlopiicaa
open Go.Free Go.RowKit Go.Proofs
set_option maxHeartbeats 8000000

def okD (d : Dt) : Prop := in64 d.1 ∧ in64 d.2
theorem Plan.eqlDt {ops : Array Oper} {Q : Exit → Act → World → Prop} {n : Nat} {I : World → Prop} {k i : Nat} {E : Env} {o : Oper} {d : Bool} {x y : Operand} {yt : TypeId} (a b : Dt) (ho : ops[i]? = some o) (hop : o.op = .binOp .eql 28 x y yt) (hg : wantB ops E o = some true)
    (hx : opF E x = some (.ex (aggD a.1 a.2))) (hy : opF E y = some (.ex (aggD b.1 b.2))) (ha : okD a) (hb : okD b)
    (h : Plan Try.prog ops Q n I d k (i + 1) (setE o.dst (.ex (.bool (decide (a = b)))) E)) : Plan Try.prog ops Q n I d (k + 1) i E :=
  Plan.eqAgg (m := 9) (l := [.int .i64, .int .i64]) (xs := [vi a.1, vi a.2]) (ys := [vi b.1, vi b.2]) (r := decide (a = b)) ho hop hg hx hy (by decide) (by kernel_rfl) (by kernel_rfl) (by kernel_rfl)
    ⟨_, _, rfl, intF ha.1, _, _, rfl, intF ha.2, rfl⟩ ⟨_, _, rfl, intF hb.1, _, _, rfl, intF hb.2, rfl⟩ formedDot (by obtain ⟨a1, a2⟩ := a; obtain ⟨b1, b2⟩ := b; simp) (.inl ⟨rfl, rfl⟩) h
theorem formedEv (zs : Array Value) (h : zs.size = kdsEvent.length) : (Value.agg zs).formed Try.prog 86 = true := by
  have hc : Try.prog.cellsOf 86 = 26 := by kernel_rfl
  unfold Value.formed
  rw [Try.underlying86]
  simp only [hc, h]
  rfl
def saE (w0 : World) (L : List EvV) (i : Nat) : Env := [(0, old w0 (evsC L)), (1, old w0 (evsC L)), (12, .ex (vi L.length)), (13, .ex (vi i))]
theorem sameE_fn (L : List EvV) (hl : L.length ≤ 1000000) (hok : ∀ x ∈ L, x.okV) : Spc Try.prog 37 [evsC L, evsC L] fun _ => .ex (.bool true) := by
  refine Spc.intro Try.func37 rfl (Nat.le_of_ble_eq_true rfl) fun w0 => ?_
  have hI := hIb w0
  repeat (first | refine Plan.move rfl rfl rfl rfl ?_ | refine Plan.assign rfl rfl rfl rfl ?_ | refine J.seq (J.region mixed hI (by kernel_rfl) ?_) | refine J.seq (J.seq (J.region mixed hI (by kernel_rfl) ?_)))
  refine Plan.lenRow (m := L.length) rfl rfl rfl rfl (Sub.old fun _ h => h) Try.underlying73 (by rw [flat_len encE]) (by decide) ?_
  repeat (refine Plan.move rfl rfl rfl rfl ?_)
  refine Plan.lenRow (m := L.length) rfl rfl rfl rfl (Sub.old fun _ h => h) Try.underlying73 (by rw [flat_len encE]) (by decide) ?_
  repeat ((refine Plan.ints rfl rfl rfl rfl rfl rfl ?_; (skip)))
  refine Plan.boolv (y := false) (by simp) ?_
  repeat (first | refine Plan.move rfl rfl rfl rfl ?_ | refine J.seq (J.seq (J.region mixed hI (by kernel_rfl) ?_)) | refine J.condF rfl ?_ | refine J.skip ?_)
  refine Plan.lenRow (m := L.length) rfl rfl rfl rfl (Sub.old fun _ h => h) Try.underlying73 (by rw [flat_len encE]) (by decide) ?_
  repeat (refine Plan.move rfl rfl rfl rfl ?_)
  refine J.block (J.loop (saE w0 L) (fun i => i ≤ L.length) (fun i => L.length - i) 0 (Nat.zero_le _) ?_ ?_)
  · repeat (first | exact Weak.nil | refine Weak.cons rfl (Sub.refl _) ?_)
  intro i hi
  repeat (first | (refine Plan.ints rfl rfl rfl rfl rfl rfl ?_; (skip)) | refine J.seq (J.region mixed hI (by kernel_rfl) ?_))
  refine J.seq (J.condD rfl (fun hc => ?_) (fun hc => ?_))
  · have hlt : i < L.length := by omega
    have hx : L[i]? = some L[i] := List.getElem?_eq_getElem hlt
    have hgd : L.getD i ev0 = L[i] := by rw [List.getD_eq_getElem?_getD, hx]; rfl
    have hki := hok _ (List.getElem_mem hlt)
    repeat (refine J.skip ?_)
    refine J.seq (J.block ?_)
    repeat (first | refine Plan.move rfl rfl rfl rfl ?_ | refine Plan.assign rfl rfl rfl rfl ?_ | refine J.seq (J.region mixed hI (by kernel_rfl) ?_))
    refine Plan.indexAddr EvV.enc 26 L ev0 rfl rfl rfl rfl (Sub.old fun _ h => h) rfl eltE encE (by omega) (by omega) ?_
    rw [Int.toNat_natCast, hgd]
    refine Plan.loadAggP rfl rfl rfl rfl (Sub.refl _) Try.underlying86 rfl (by rw [encE]; kernel_rfl) ?_
    repeat (refine Plan.move rfl rfl rfl rfl ?_)
    refine Plan.indexAddr EvV.enc 26 L ev0 rfl rfl rfl rfl (Sub.old fun _ h => h) rfl eltE encE (by omega) (by omega) ?_
    rw [Int.toNat_natCast, hgd]
    refine Plan.loadAggP rfl rfl rfl rfl (Sub.refl _) Try.underlying86 rfl (by rw [encE]; kernel_rfl) ?_
    refine Plan.eqAgg (m := 9) (l := kdsEvent) (xs := L[i].enc) (ys := L[i].enc) (r := true) (v := false) rfl rfl rfl rfl rfl (by decide) (by kernel_rfl) (by kernel_rfl) (by kernel_rfl) (enc_ok hki) (enc_ok hki) formedEv (by simp) (.inr ⟨rfl, rfl⟩) ?_
    repeat (first | refine Plan.move rfl rfl rfl rfl ?_ | (refine Plan.ints rfl rfl rfl rfl rfl rfl ?_; (refine Plan.int (i64r (by omega)) ?_)) | refine J.region mixed hI (by kernel_rfl) ?_ | refine J.condF rfl ?_ | refine J.skip ?_)
    refine Plan.int (y := ((i + 1 : Nat) : Int)) (by omega) ?_
    repeat (fail)
    exact Nrm.next (i + 1) (by omega) (by omega) (by repeat (first | exact Weak.nil | refine Weak.cons rfl (Sub.refl _) ?_))
  refine J.exit ?_
  repeat (first | refine Plan.assign rfl rfl rfl rfl ?_ | refine J.seq (J.region mixed hI (by kernel_rfl) ?_))
  exact J.ret (Nrm.ret1 rfl (fun _ h => h) rfl fun B _ => Sub.refl _)
/-! ### The model's buffer -/
def bagOf (l : List EvV) : List (Dt × EvV) := l.map fun e => (dotE e, e)
theorem bagOf_at {l : List EvV} {i : Nat} {x : EvV} (h : l[i]? = some x) : (bagOf l)[i]? = some (dotE x, x) := by unfold bagOf; rw [List.getElem?_map, h]; rfl
theorem bagOf_len (l : List EvV) : (bagOf l).length = l.length := by simp [bagOf]
theorem bagOf_mem {l : List EvV} {d : Dt} {x : EvV} : (d, x) ∈ bagOf l ↔ x ∈ l ∧ d = dotE x := by
  unfold bagOf
  rw [List.mem_map]
  constructor
  · rintro ⟨y, hy, e⟩; cases e; exact ⟨hy, rfl⟩
  · rintro ⟨hy, rfl⟩; exact ⟨x, hy, rfl⟩
def refB (β : Nat) (l : List EvV) : Chunk := exC fun p : Option Addr × Nat => sepC (obj β [.slice p.1 l.length p.2]) (rowEv p.1 l.length p.2 (l.flatMap EvV.enc))
theorem refB_close {β cap : Nat} {l : List EvV} {B : Option Addr} : Ent (allC [obj β [.slice B l.length cap], rowEv B l.length cap (l.flatMap EvV.enc)]) (refB β l) :=
  Ent.ex (B, cap) (Ent.sep (Ent.refl _) Ent.one)
def outE (l : List EvV) (e : EvV) (i : Nat) : List EvV := if posD (bagOf l) (dotE e) < i then insD (l.take i) (posD (bagOf l) (dotE e)) e else l.take i
theorem outE_lt {l : List EvV} {e : EvV} {i : Nat} (h : i < l.length) (hp : i < posD (bagOf l) (dotE e)) : outE l e (i + 1) = outE l e i ++ [l[i]] := by
  unfold outE
  rw [if_neg (by omega), if_neg (by omega), List.take_succ_eq_append_getElem h]
theorem outE_eq {l : List EvV} {e : EvV} {i : Nat} (h : i < l.length) (hp : i = posD (bagOf l) (dotE e)) : outE l e (i + 1) = outE l e i ++ [e] ++ [l[i]] := by
  unfold outE
  rw [if_pos (by omega), if_neg (by omega), List.take_succ_eq_append_getElem h]
  unfold insD
  rw [← hp, List.take_left' (by rw [List.length_take]; omega), List.drop_left' (by rw [List.length_take]; omega)]
  simp
theorem outE_gt {l : List EvV} {e : EvV} {i : Nat} (h : i < l.length) (hp : posD (bagOf l) (dotE e) < i) : outE l e (i + 1) = outE l e i ++ [l[i]] := by
  unfold outE
  rw [if_pos (by omega), if_pos (by omega), List.take_succ_eq_append_getElem h]
  unfold insD
  rw [List.take_append_of_le_length (by rw [List.length_take]; omega), List.drop_append_of_le_length (by rw [List.length_take]; omega)]
  simp
theorem outE_len {l : List EvV} {e : EvV} {i : Nat} : (outE l e i).length ≤ i + 1 := by
  unfold outE; split
  · rw [insD_length, List.length_take]; omega
  · rw [List.length_take]; omega
def keepM (l : List EvV) (e : EvV) : List EvV := if hereD (bagOf l) (dotE e) then l else insD l (posD (bagOf l) (dotE e)) e
theorem keepM_bag (l : List EvV) (e : EvV) (h : hereD (bagOf l) (dotE e) = false) : bagOf (keepM l e) = putD (bagOf l) (dotE e) e := by
  unfold keepM putD
  rw [h]
  show bagOf (insD l _ e) = insD (bagOf l) _ _
  unfold bagOf insD
  simp [List.map_take, List.map_drop]
def beforeP (a b : Dt) : Prop := a.1 < b.1 ∨ (a.1 = b.1 ∧ a.2 < b.2)
theorem before_fnE (a b : Dt) : Spc Try.prog 18 [.ex (aggD a.1 a.2), .ex (aggD b.1 b.2)] fun _ => .ex (.bool (decide (a.1 < b.1 ∨ (a.1 = b.1 ∧ a.2 < b.2)))) := by
  refine Spc.intro Try.func18 rfl (Nat.le_of_ble_eq_true rfl) fun w0 => ?_
  have hI := hIb w0
  have hA := Own.below w0
  refine J.heap0 1000 (newB w0) ?_
  repeat' (first | refine Plan.move rfl rfl rfl rfl ?_ | refine Plan.assign rfl rfl rfl rfl ?_ | refine Plan.skip rfl rfl ?_ | refine Plan.pick rfl rfl rfl rfl rfl ?_ | (refine Plan.ints rfl rfl rfl rfl rfl rfl ?_; (skip)) | refine Plan.fieldC rfl rfl rfl rfl (by first | exact Try.underlying86 | exact Try.underlying28) rfl (by kernel_rfl) (by first | exact (rfl : _ = 0) | exact (rfl : _ = 1)) ?_ | refine Plan.loadC (key := 1000) (q := 0) rfl rfl rfl rfl rfl rfl (obj_reads1 rfl) (by exact Try.underlying3) (by rfl) (by decide) ?_ | refine Plan.loadC (key := 1000) (q := 1) rfl rfl rfl rfl rfl rfl (obj_reads1 rfl) (by exact Try.underlying3) (by rfl) (by decide) ?_ | refine J.seq (J.region mixed hI (by kernel_rfl) ?_) | refine Plan.boxC (key := 1000) rfl rfl rfl (by intro _ e; cases e; decide) rfl rfl hA fun _ => ?_ | refine Plan.splitD (fun _ => ?_) (fun _ => ?_))
  all_goals exact J.ret (Nrm.ret1 rfl (fun _ h => h) rfl fun B _ => Sub.of_eq (congrArg (fun b => Fa.ex (.bool b)) (by
    first
    | refine (decide_eq_true ?_).symm
    | refine (decide_eq_false ?_).symm
    | refine decide_eq_decide.2 ?_
    | refine beq_decide ?_
    | refine bne_decide ?_
    all_goals ((try simp only [fieldP, valueP, numP, refP, kindP, addP, dotP, hasP, rightVP] at *); omega))))
theorem beforeD_fn (a b : Dt) : Spc Try.prog 18 [.ex (aggD a.1 a.2), .ex (aggD b.1 b.2)] fun _ => .ex (.bool (decide (dlt a b))) := by
  have h := before_fnE a b
  have e : decide (a.1 < b.1 ∨ (a.1 = b.1 ∧ a.2 < b.2)) = decide (dlt a b) := decide_eq_decide.2 Iff.rfl
  rw [e] at h; exact h
def kpE (w0 : World) (F : Nat → Prop) (β γ : Nat) (B : Option Addr) (cap : Nat) (l : List EvV) (e : EvV) (i : Nat) (dn : Bool) (O : Option Addr) (oc : Nat) (out : List EvV) : Env :=
  [(0, .ex (ptr β)), (3, .ex (ptr γ)), (4, .ex (.slice O out.length oc)), (5, .ex (.bool dn)), (11, .ex (vi l.length)), (12, .ex (vi i)),
   (1000, heap (fun b => F b ∨ w0.heap.size ≤ b) [obj β [.slice B l.length cap], rowEv B l.length cap (l.flatMap EvV.enc), obj γ (aggE e).cells.toList, rowEv O out.length oc (out.flatMap EvV.enc)])]
theorem keep_fn (β : Nat) (l : List EvV) (hs : sortedD (bagOf l)) (hl : l.length ≤ 1000000) (hok : ∀ x ∈ l, x.okV) (e : EvV) (he : e.okV) :
    SpcC Try.prog 64 [.ex (ptr β), .ex (aggE e)] (refB β l) (fun _ : Unit => True) (fun _ => Fa.any) (fun _ => refB β (keepM l e)) := by
  have hed : okD (dotE e) := ⟨he.1, he.2.1⟩
  have hpl := posD_le (bagOf l) (dotE e)
  rw [bagOf_len] at hpl
  refine SpcC.intro Try.func64 rfl (Nat.le_of_ble_eq_true rfl) fun w0 F => ?_
  have hI := kept_below F w0
  have hA := Own.kept F w0
  refine J.exC (key := 1000) (q := 0) rfl rfl fun xx => ?_
  refine J.sepC (key := 1000) (q := 0) rfl rfl ?_
  obtain ⟨B, cap⟩ := xx
  dsimp only
  repeat (refine J.seq (J.region mixed hI (by kernel_rfl) ?_))
  refine Plan.boxC (key := 1000) rfl rfl rfl (by intro _ e; cases e; decide) rfl rfl hA fun γ => ?_
  repeat (first | refine Plan.move rfl rfl rfl rfl ?_ | refine Plan.assign rfl rfl rfl rfl ?_ | refine Plan.nilOk rfl rfl rfl rfl ?_ | refine Plan.fieldC rfl rfl rfl rfl (by first | exact Try.underlying86 | exact Try.underlying75) rfl (by kernel_rfl) (by exact (rfl : _ = 0)) ?_ | refine Plan.loadC (key := 1000) (q := 0) rfl rfl rfl rfl rfl rfl (obj_reads1 rfl) (by first | exact Try.underlying3 | exact Try.underlying73) (by rfl) (by decide) ?_ | refine J.seq (J.region mixed hI (by kernel_rfl) ?_) | refine J.seq (J.seq (J.region mixed hI (by kernel_rfl) ?_)))
  refine Plan.lenE rfl rfl rfl rfl Try.underlying73 ?_
  repeat (refine Plan.move rfl rfl rfl rfl ?_)
  refine J.nilRow (key := 1000) 86 26 rfl ?_
  refine J.block (J.loop (fun s : Nat × Bool × Option Addr × Nat => kpE w0 F β γ B cap l e s.1 s.2.1 s.2.2.1 s.2.2.2 (outE l e s.1)) (fun s : Nat × Bool × Option Addr × Nat => s.1 ≤ l.length ∧ s.2.1 = decide (posD (bagOf l) (dotE e) < s.1) ∧ ∀ (j : Nat) y, l[j]? = some y → j < s.1 → dotE y ≠ dotE e) (fun s => l.length - s.1) (0, false, none, 0) ⟨Nat.zero_le _, (decide_eq_false (by simp)).symm, fun j y _ h => by simp only at h; omega⟩ ?_ ?_)
  · have h0 : outE l e 0 = [] := by unfold outE; rw [if_neg (by omega)]; rfl
    simp only
    rw [h0]
    repeat (first | exact Weak.nil | refine Weak.cons rfl (Sub.refl _) ?_)
  rintro ⟨i, dn, O, oc⟩ ⟨hi, hdn, hno⟩
  simp only at hi hdn hno
  change J _ _ _ _ _ (kpE w0 F β γ B cap l e i dn O oc (outE l e i))
  have hol := outE_len (l := l) (e := e) (i := i)
  repeat (first | (refine Plan.ints rfl rfl rfl rfl rfl rfl ?_; (skip)) | refine J.seq (J.region mixed hI (by kernel_rfl) ?_))
  refine J.seq (J.condD rfl (fun hc => ?_) (fun hc => ?_))
  · have hlt : i < l.length := by omega
    have hxi : l[i]? = some l[i] := List.getElem?_eq_getElem hlt
    have hxo := hok _ (List.getElem_mem hlt)
    have hxb := bagOf_at hxi
    refine J.factC (key := 1000) (q := 1) rfl rfl (fun w F h => row_room h) fun hrm => ?_
    obtain ⟨g, rfl⟩ : ∃ g, B = some ⟨g, 0, none⟩ := by
      cases B with
      | none => have := (hrm.2.2.2.1 rfl).1; omega
      | some ad => exact ⟨ad.block, by rw [← hrm.2.2.2.2 ad rfl]⟩
    have hat := flat_ev l hlt
    have hra : ((l.flatMap EvV.enc).drop (i * 26)).take l[i].enc.length = l[i].enc := by rw [hat, List.take_left]
    have hrd : ((l.flatMap EvV.enc).drop (i * 26)).take 2 = [vi l[i].r, vi l[i].n] := by rw [hat]; rfl
    repeat (refine J.skip ?_)
    refine J.seq (J.block ?_)
    repeat (first | refine Plan.move rfl rfl rfl rfl ?_ | refine Plan.assign rfl rfl rfl rfl ?_ | refine Plan.nilOk rfl rfl rfl rfl ?_ | refine Plan.fieldC rfl rfl rfl rfl (by first | exact Try.underlying86 | exact Try.underlying75) rfl (by kernel_rfl) (by exact (rfl : _ = 0)) ?_ | refine Plan.loadC (key := 1000) (q := 0) rfl rfl rfl rfl rfl rfl (obj_reads1 rfl) (by first | exact Try.underlying3 | exact Try.underlying73) (by rfl) (by decide) ?_ | refine J.seq (J.region mixed hI (by kernel_rfl) ?_) | refine J.seq (J.seq (J.region mixed hI (by kernel_rfl) ?_)))
    refine Plan.indexC (off := i * 26) rfl rfl rfl rfl rfl eltE hlt (by omega) ?_
    refine Plan.fieldC (off := i * 26) rfl rfl rfl rfl (by exact Try.underlying86) rfl (by kernel_rfl) rfl ?_
    refine Plan.loadAggC (key := 1000) (q := 1) (off := i * 26) (vs := [vi l[i].r, vi l[i].n]) rfl rfl rfl rfl rfl rfl (row_reads hrd) Try.underlying28 rfl (by kernel_rfl) (by decide) ?_
    repeat (refine Plan.fieldC rfl rfl rfl rfl (by exact Try.underlying86) rfl (by kernel_rfl) (by exact (rfl : _ = 0)) ?_)
    refine Plan.loadAggC (key := 1000) (q := 2) (off := 0) (vs := [vi e.r, vi e.n]) rfl rfl rfl rfl rfl rfl (obj_reads rfl) Try.underlying28 rfl (by kernel_rfl) (by decide) ?_
    refine Plan.eqlDt (dotE l[i]) (dotE e) rfl rfl rfl rfl rfl ⟨hxo.1, hxo.2.1⟩ hed ?_
    refine J.condD rfl (fun hd => ?_) (fun hd => ?_)
    · have hh : hereD (bagOf l) (dotE e) = true := (here_mem hs).2 ⟨l[i], by rw [← hd]; exact List.mem_of_getElem? hxb⟩
      have hk : keepM l e = l := by unfold keepM; rw [if_pos hh]
      rw [hk]
      exact J.ret (Nrm.retC0 (key := 1000) () rfl rfl rfl trivial ((Ent.pickC (H' := [obj β [.slice (some ⟨g, 0, none⟩) l.length cap], rowEv (some ⟨g, 0, none⟩) l.length cap (l.flatMap EvV.enc)]) [0, 1] rfl rfl).trans (refB_close (β := β) (l := l) (B := some ⟨g, 0, none⟩) (cap := cap))) (.inr rfl))
    have hno2 : ∀ (j : Nat) y, l[j]? = some y → j < i + 1 → dotE y ≠ dotE e := fun j y hy hj => by
      rcases Nat.lt_or_ge j i with h5 | h5
      · exact hno j y hy h5
      · have : j = i := by omega
        subst this; rw [hxi] at hy; cases hy; exact hd
    have hbef : dlt (dotE e) (dotE l[i]) ↔ posD (bagOf l) (dotE e) ≤ i := by
      constructor
      · intro h
        rcases Nat.lt_or_ge i (posD (bagOf l) (dotE e)) with h1 | h1
        · exact absurd (dlt_trans h ((posD_lt hs hxb).1 h1)) (dlt_irr _)
        · exact h1
      · intro h
        rcases dlt_tri (dotE e) (dotE l[i]) with h1 | h1 | h1
        · exact h1
        · exact absurd h1.symm hd
        · have := (posD_lt hs hxb).2 h1; omega
    refine J.skip ?_
    repeat (first | refine Plan.move rfl rfl rfl rfl ?_ | refine Plan.un rfl rfl rfl rfl rfl ?_ | refine J.seq (J.seq (J.region mixed hI (by kernel_rfl) ?_)))
    cases dn with
    | true =>
      have hp : posD (bagOf l) (dotE e) < i := of_decide_eq_true hdn.symm
      have hst := outE_gt hlt hp
      repeat (first | refine Plan.move rfl rfl rfl rfl ?_ | refine Plan.skip rfl rfl ?_ | refine Plan.pick rfl rfl rfl rfl rfl ?_ | refine Plan.nilOk rfl rfl rfl rfl ?_ | refine Plan.fieldC rfl rfl rfl rfl (by first | exact Try.underlying86 | exact Try.underlying75) rfl (by kernel_rfl) (by exact (rfl : _ = 0)) ?_ | refine Plan.loadC (key := 1000) (q := 0) rfl rfl rfl rfl rfl rfl (obj_reads1 rfl) (by first | exact Try.underlying3 | exact Try.underlying73) (by rfl) (by decide) ?_ | refine J.region mixed hI (by kernel_rfl) ?_ | refine J.condF rfl ?_ | refine J.skip ?_)
      refine Plan.indexC (off := i * 26) rfl rfl rfl rfl rfl eltE hlt (by omega) ?_
      refine Plan.loadAggC (key := 1000) (q := 1) (off := i * 26) (vs := l[i].enc) rfl rfl rfl rfl rfl rfl (row_reads hra) Try.underlying86 rfl (by rw [encE]; kernel_rfl) (by decide) ?_
      refine Plan.lit (B := 0) rfl rfl rfl eltE rfl (fun _ _ => Nat.zero_le _) rfl (fun v hv => by rw [List.mem_singleton.1 hv]; rfl) (by decide) ?_
      refine Plan.appendC (key := 1000) (q := 3) (news := EvV.enc l[i]) rfl rfl rfl rfl rfl Sub.own eltE (by intro _ e; cases e; decide) rfl hA rfl (encE_one l[i]) (by simp only [flat_len encE, encE, List.length_append, List.length_cons, List.length_nil]; omega) fun O1 m1 oc1 hm1 => ?_
      have hk1 : m1 = (outE l e i ++ [l[i]]).length := by rw [flat_len encE, encE] at hm1; simp only [List.length_append, List.length_cons, List.length_nil] at hm1 ⊢; omega
      subst hk1
      have hrow1 : (outE l e i).flatMap EvV.enc ++ EvV.enc l[i] = (outE l e i ++ [l[i]]).flatMap EvV.enc := by simp only [List.flatMap_append, List.flatMap_cons, List.flatMap_nil, List.append_nil]
      rw [hrow1]
      repeat (first | refine Plan.move rfl rfl rfl rfl ?_ | refine Plan.assign rfl rfl rfl rfl ?_ | (refine Plan.ints rfl rfl rfl rfl rfl rfl ?_; (refine Plan.int (i64r (by omega)) ?_)) | refine J.region mixed hI (by kernel_rfl) ?_)
      refine Plan.int (y := ((i + 1 : Nat) : Int)) (by omega) ?_
      repeat (fail)
      refine Nrm.next (ok := fun s : Nat × Bool × Option Addr × Nat => s.1 ≤ l.length ∧ s.2.1 = decide (posD (bagOf l) (dotE e) < s.1) ∧ ∀ (j : Nat) y, l[j]? = some y → j < s.1 → dotE y ≠ dotE e) (s := (i, true, O, oc)) (i + 1, true, O1, oc1) ⟨by simp only; omega, (decide_eq_true (by omega)).symm, hno2⟩ (by simp only; omega) ?_
      simp only
      rw [hst]
      repeat (first | exact Weak.nil | refine Weak.cons rfl (Sub.refl _) ?_)
    | false =>
      have hp : ¬ posD (bagOf l) (dotE e) < i := of_decide_eq_false hdn.symm
      repeat (refine Plan.fieldC rfl rfl rfl rfl (by exact Try.underlying86) rfl (by kernel_rfl) (by exact (rfl : _ = 0)) ?_)
      refine Plan.loadAggC (key := 1000) (q := 2) (off := 0) (vs := [vi e.r, vi e.n]) rfl rfl rfl rfl rfl rfl (obj_reads rfl) Try.underlying28 rfl (by kernel_rfl) (by decide) ?_
      repeat (first | refine Plan.move rfl rfl rfl rfl ?_ | refine Plan.nilOk rfl rfl rfl rfl ?_ | refine Plan.fieldC rfl rfl rfl rfl (by first | exact Try.underlying86 | exact Try.underlying75) rfl (by kernel_rfl) (by exact (rfl : _ = 0)) ?_ | refine Plan.loadC (key := 1000) (q := 0) rfl rfl rfl rfl rfl rfl (obj_reads1 rfl) (by first | exact Try.underlying3 | exact Try.underlying73) (by rfl) (by decide) ?_)
      refine Plan.indexC (off := i * 26) rfl rfl rfl rfl rfl eltE hlt (by omega) ?_
      refine Plan.fieldC (off := i * 26) rfl rfl rfl rfl (by exact Try.underlying86) rfl (by kernel_rfl) rfl ?_
      refine Plan.loadAggC (key := 1000) (q := 1) (off := i * 26) (vs := [vi l[i].r, vi l[i].n]) rfl rfl rfl rfl rfl rfl (row_reads hrd) Try.underlying28 rfl (by kernel_rfl) (by decide) ?_
      refine Plan.call (B := 0) rfl rfl rfl (beforeD_fn (dotE e) (dotE l[i])) Try.func18 rfl rfl (fun _ _ => Nat.zero_le _) (by repeat (first | exact Opnds.nil | refine Opnds.cons rfl (by exact Sub.refl _) ?_)) ?_
      by_cases hb : dlt (dotE e) (dotE l[i])
      · have hpi : i = posD (bagOf l) (dotE e) := by have := hbef.1 hb; omega
        have hst := outE_eq hlt hpi
        refine Plan.boolv (y := true) (decide_eq_true hb) ?_
        repeat (first | refine Plan.move rfl rfl rfl rfl ?_ | refine Plan.pick rfl rfl rfl rfl rfl ?_ | refine J.seq (J.region mixed hI (by kernel_rfl) ?_) | refine J.condT rfl ?_)
        refine Plan.loadAggC (key := 1000) (q := 2) (off := 0) (vs := e.enc) rfl rfl rfl rfl rfl rfl (obj_reads rfl) Try.underlying86 rfl (by rw [encE]; kernel_rfl) (by decide) ?_
        refine Plan.lit (B := 0) rfl rfl rfl eltE rfl (fun _ _ => Nat.zero_le _) rfl (fun v hv => by rw [List.mem_singleton.1 hv]; rfl) (by decide) ?_
        refine Plan.appendC (key := 1000) (q := 3) (news := EvV.enc e) rfl rfl rfl rfl rfl Sub.own eltE (by intro _ e; cases e; decide) rfl hA rfl (encE_one e) (by simp only [flat_len encE, encE, List.length_append, List.length_cons, List.length_nil]; omega) fun O1 m1 oc1 hm1 => ?_
        have hk1 : m1 = (outE l e i ++ [e]).length := by rw [flat_len encE, encE] at hm1; simp only [List.length_append, List.length_cons, List.length_nil] at hm1 ⊢; omega
        subst hk1
        have hrow1 : (outE l e i).flatMap EvV.enc ++ EvV.enc e = (outE l e i ++ [e]).flatMap EvV.enc := by simp only [List.flatMap_append, List.flatMap_cons, List.flatMap_nil, List.append_nil]
        rw [hrow1]
        repeat (first | refine Plan.move rfl rfl rfl rfl ?_ | refine Plan.assign rfl rfl rfl rfl ?_ | refine Plan.nilOk rfl rfl rfl rfl ?_ | refine Plan.fieldC rfl rfl rfl rfl (by first | exact Try.underlying86 | exact Try.underlying75) rfl (by kernel_rfl) (by exact (rfl : _ = 0)) ?_ | refine Plan.loadC (key := 1000) (q := 0) rfl rfl rfl rfl rfl rfl (obj_reads1 rfl) (by first | exact Try.underlying3 | exact Try.underlying73) (by rfl) (by decide) ?_ | refine J.region mixed hI (by kernel_rfl) ?_)
        refine Plan.indexC (off := i * 26) rfl rfl rfl rfl rfl eltE hlt (by omega) ?_
        refine Plan.loadAggC (key := 1000) (q := 1) (off := i * 26) (vs := l[i].enc) rfl rfl rfl rfl rfl rfl (row_reads hra) Try.underlying86 rfl (by rw [encE]; kernel_rfl) (by decide) ?_
        refine Plan.lit (B := 0) rfl rfl rfl eltE rfl (fun _ _ => Nat.zero_le _) rfl (fun v hv => by rw [List.mem_singleton.1 hv]; rfl) (by decide) ?_
        refine Plan.appendC (key := 1000) (q := 3) (news := EvV.enc l[i]) rfl rfl rfl rfl rfl Sub.own eltE (by intro _ e; cases e; decide) rfl hA rfl (encE_one l[i]) (by simp only [flat_len encE, encE, List.length_append, List.length_cons, List.length_nil]; omega) fun O2 m2 oc2 hm2 => ?_
        have hk2 : m2 = (outE l e i ++ [e] ++ [l[i]]).length := by rw [flat_len encE, encE] at hm2; simp only [List.length_append, List.length_cons, List.length_nil] at hm2 ⊢; omega
        subst hk2
        have hrow2 : (outE l e i ++ [e]).flatMap EvV.enc ++ EvV.enc l[i] = (outE l e i ++ [e] ++ [l[i]]).flatMap EvV.enc := by simp only [List.flatMap_append, List.flatMap_cons, List.flatMap_nil, List.append_nil]
        rw [hrow2]
        repeat (first | refine Plan.move rfl rfl rfl rfl ?_ | refine Plan.assign rfl rfl rfl rfl ?_ | (refine Plan.ints rfl rfl rfl rfl rfl rfl ?_; (refine Plan.int (i64r (by omega)) ?_)) | refine J.region mixed hI (by kernel_rfl) ?_)
        refine Plan.int (y := ((i + 1 : Nat) : Int)) (by omega) ?_
        repeat (fail)
        refine Nrm.next (ok := fun s : Nat × Bool × Option Addr × Nat => s.1 ≤ l.length ∧ s.2.1 = decide (posD (bagOf l) (dotE e) < s.1) ∧ ∀ (j : Nat) y, l[j]? = some y → j < s.1 → dotE y ≠ dotE e) (s := (i, false, O, oc)) (i + 1, true, O2, oc2) ⟨by simp only; omega, (decide_eq_true (by omega)).symm, hno2⟩ (by simp only; omega) ?_
        simp only
        rw [hst]
        repeat (first | exact Weak.nil | refine Weak.cons rfl (Sub.refl _) ?_)
      · have hpi : i < posD (bagOf l) (dotE e) := Nat.lt_of_not_le fun h => hb (hbef.2 h)
        have hst := outE_lt hlt hpi
        refine Plan.boolv (y := false) (decide_eq_false hb) ?_
        repeat (first | refine Plan.move rfl rfl rfl rfl ?_ | refine Plan.pick rfl rfl rfl rfl rfl ?_ | refine Plan.nilOk rfl rfl rfl rfl ?_ | refine Plan.fieldC rfl rfl rfl rfl (by first | exact Try.underlying86 | exact Try.underlying75) rfl (by kernel_rfl) (by exact (rfl : _ = 0)) ?_ | refine Plan.loadC (key := 1000) (q := 0) rfl rfl rfl rfl rfl rfl (obj_reads1 rfl) (by first | exact Try.underlying3 | exact Try.underlying73) (by rfl) (by decide) ?_ | refine J.region mixed hI (by kernel_rfl) ?_ | refine J.condF rfl ?_ | refine J.skip ?_)
        refine Plan.indexC (off := i * 26) rfl rfl rfl rfl rfl eltE hlt (by omega) ?_
        refine Plan.loadAggC (key := 1000) (q := 1) (off := i * 26) (vs := l[i].enc) rfl rfl rfl rfl rfl rfl (row_reads hra) Try.underlying86 rfl (by rw [encE]; kernel_rfl) (by decide) ?_
        refine Plan.lit (B := 0) rfl rfl rfl eltE rfl (fun _ _ => Nat.zero_le _) rfl (fun v hv => by rw [List.mem_singleton.1 hv]; rfl) (by decide) ?_
        refine Plan.appendC (key := 1000) (q := 3) (news := EvV.enc l[i]) rfl rfl rfl rfl rfl Sub.own eltE (by intro _ e; cases e; decide) rfl hA rfl (encE_one l[i]) (by simp only [flat_len encE, encE, List.length_append, List.length_cons, List.length_nil]; omega) fun O1 m1 oc1 hm1 => ?_
        have hk1 : m1 = (outE l e i ++ [l[i]]).length := by rw [flat_len encE, encE] at hm1; simp only [List.length_append, List.length_cons, List.length_nil] at hm1 ⊢; omega
        subst hk1
        have hrow1 : (outE l e i).flatMap EvV.enc ++ EvV.enc l[i] = (outE l e i ++ [l[i]]).flatMap EvV.enc := by simp only [List.flatMap_append, List.flatMap_cons, List.flatMap_nil, List.append_nil]
        rw [hrow1]
        repeat (first | refine Plan.move rfl rfl rfl rfl ?_ | refine Plan.assign rfl rfl rfl rfl ?_ | (refine Plan.ints rfl rfl rfl rfl rfl rfl ?_; (refine Plan.int (i64r (by omega)) ?_)) | refine J.region mixed hI (by kernel_rfl) ?_)
        refine Plan.int (y := ((i + 1 : Nat) : Int)) (by omega) ?_
        repeat (fail)
        refine Nrm.next (ok := fun s : Nat × Bool × Option Addr × Nat => s.1 ≤ l.length ∧ s.2.1 = decide (posD (bagOf l) (dotE e) < s.1) ∧ ∀ (j : Nat) y, l[j]? = some y → j < s.1 → dotE y ≠ dotE e) (s := (i, false, O, oc)) (i + 1, false, O1, oc1) ⟨by simp only; omega, (decide_eq_false (by omega)).symm, hno2⟩ (by simp only; omega) ?_
        simp only
        rw [hst]
        repeat (first | exact Weak.nil | refine Weak.cons rfl (Sub.refl _) ?_)
  have hie : i = l.length := by omega
  subst hie
  have hnh : hereD (bagOf l) (dotE e) = false := (here_not hs).2 fun x hx => by
    obtain ⟨h1, h2⟩ := bagOf_mem.1 hx
    obtain ⟨j, hj, e1⟩ := List.getElem_of_mem h1
    exact hno j x (by rw [List.getElem?_eq_getElem hj, e1]) hj h2.symm
  have hkm : keepM l e = insD l (posD (bagOf l) (dotE e)) e := by unfold keepM; rw [hnh]; rfl
  refine J.exit ?_
  rw [hkm]
  cases dn with
  | true =>
    have hp : posD (bagOf l) (dotE e) < l.length := of_decide_eq_true hdn.symm
    have ho : outE l e l.length = insD l (posD (bagOf l) (dotE e)) e := by unfold outE; rw [if_pos hp, List.take_length]
    rw [ho]
    repeat (first | refine Plan.move rfl rfl rfl rfl ?_ | refine Plan.un rfl rfl rfl rfl rfl ?_ | refine Plan.nilOk rfl rfl rfl rfl ?_ | refine Plan.fieldC rfl rfl rfl rfl (by first | exact Try.underlying86 | exact Try.underlying75) rfl (by kernel_rfl) (by exact (rfl : _ = 0)) ?_ | refine J.region mixed hI (by kernel_rfl) ?_ | refine J.seq (J.seq (J.region mixed hI (by kernel_rfl) ?_)) | refine J.condF rfl ?_ | refine J.skip ?_)
    refine Plan.storeC (key := 1000) (q := 0) rfl rfl rfl rfl rfl rfl (by simp [Value.cells, Value.oneCell', str]) (by kernel_rfl) rfl hA rfl (obj_pat1 (Nat.le_of_ble_eq_true rfl)) ?_
    exact Nrm.retC0 (key := 1000) () rfl rfl rfl trivial ((Ent.pickC [0, 3] rfl rfl).trans (refB_close (B := O) (cap := oc))) (.inl rfl)
  | false =>
    have hp : ¬ posD (bagOf l) (dotE e) < l.length := of_decide_eq_false hdn.symm
    have ho : outE l e l.length = l := by unfold outE; rw [if_neg hp, List.take_length]
    have hin : insD l (posD (bagOf l) (dotE e)) e = l ++ [e] := by unfold insD; rw [show posD (bagOf l) (dotE e) = l.length by omega, List.take_length, List.drop_length]
    rw [ho, hin]
    repeat (first | refine Plan.move rfl rfl rfl rfl ?_ | refine Plan.un rfl rfl rfl rfl rfl ?_ | refine J.region mixed hI (by kernel_rfl) ?_ | refine J.seq (J.seq (J.region mixed hI (by kernel_rfl) ?_)) | refine J.condT rfl ?_)
    refine Plan.loadAggC (key := 1000) (q := 2) (off := 0) (vs := e.enc) rfl rfl rfl rfl rfl rfl (obj_reads rfl) Try.underlying86 rfl (by rw [encE]; kernel_rfl) (by decide) ?_
    refine Plan.lit (B := 0) rfl rfl rfl eltE rfl (fun _ _ => Nat.zero_le _) rfl (fun v hv => by rw [List.mem_singleton.1 hv]; rfl) (by decide) ?_
    refine Plan.appendC (key := 1000) (q := 3) (news := EvV.enc e) rfl rfl rfl rfl rfl Sub.own eltE (by intro _ e; cases e; decide) rfl hA rfl (encE_one e) (by simp only [flat_len encE, encE, List.length_append, List.length_cons, List.length_nil]; omega) fun O1 m1 oc1 hm1 => ?_
    have hk1 : m1 = (l ++ [e]).length := by rw [flat_len encE, encE] at hm1; simp only [List.length_append, List.length_cons, List.length_nil] at hm1 ⊢; omega
    subst hk1
    have hrow1 : (l).flatMap EvV.enc ++ EvV.enc e = (l ++ [e]).flatMap EvV.enc := by simp only [List.flatMap_append, List.flatMap_cons, List.flatMap_nil, List.append_nil]
    rw [hrow1]
    repeat (first | refine Plan.move rfl rfl rfl rfl ?_ | refine Plan.assign rfl rfl rfl rfl ?_ | refine Plan.nilOk rfl rfl rfl rfl ?_ | refine Plan.fieldC rfl rfl rfl rfl (by first | exact Try.underlying86 | exact Try.underlying75) rfl (by kernel_rfl) (by exact (rfl : _ = 0)) ?_ | refine J.region mixed hI (by kernel_rfl) ?_)
    refine Plan.storeC (key := 1000) (q := 0) rfl rfl rfl rfl rfl rfl (by simp [Value.cells, Value.oneCell', str]) (by kernel_rfl) rfl hA rfl (obj_pat1 (Nat.le_of_ble_eq_true rfl)) ?_
    exact Nrm.retC0 (key := 1000) () rfl rfl rfl trivial ((Ent.pickC [0, 3] rfl rfl).trans (refB_close (B := O1) (cap := oc1))) (.inl rfl)
end Go.Proofs.Ytkhcjedlopiicaa

namespace Go.Proofs.Ytkhcjedlopiicaa
open Go.Free Go.RowKit Go.Proofs
set_option maxHeartbeats 8000000

theorem bagOf_back {B : List (Dt × EvV)} (h : ∀ x ∈ B, x.1 = dotE x.2) : bagOf (B.map (·.2)) = B := by
  unfold bagOf
  rw [List.map_map]
  refine (List.map_congr_left fun x hx => ?_).trans (List.map_id _)
  show (dotE x.2, x.2) = x
  rw [← h x hx]
theorem bagOf_filter (v : Nat → Int) (l : List EvV) : bagOf (l.filter fun e => !decide (hasP v e.r e.n)) = leftE v (bagOf l) := by
  unfold leftE keepE bagOf
  rw [List.filter_map]
  congr 1
  refine List.filter_congr fun e _ => ?_
  simp [goesE, Function.comp, dotE]
def leftM (v : Nat → Int) (l : List EvV) : List EvV := l.filter fun e => !decide (hasP v e.r e.n)
theorem leftM_succ (v : Nat → Int) (l : List EvV) {i : Nat} (h : i < l.length) : leftM v (l.take (i + 1)) = if hasP v l[i].r l[i].n then leftM v (l.take i) else leftM v (l.take i) ++ [l[i]] := by
  unfold leftM
  rw [List.take_succ_eq_append_getElem h, List.filter_append]
  by_cases hd : hasP v l[i].r l[i].n <;> simp [List.filter_cons, hd]
def comeM (e : EvV) (v : Nat → Int) (l : List EvV) : List EvV := if rightP e ∧ ¬ hasP v e.r e.n ∧ l.length < 64 then keepM l e else l
theorem comeM_bag (e : EvV) (v : Nat → Int) (l : List EvV) : bagOf (comeM e v l) = comeE e v (bagOf l) := by
  unfold comeM comeE
  rw [bagOf_len]
  by_cases hc : rightP e ∧ ¬ hasP v e.r e.n ∧ l.length < 64
  · rw [if_pos hc]
    cases hh : hereD (bagOf l) (dotE e) with
    | true =>
      rw [if_neg (fun h => by cases h.2.2.1)]
      unfold keepM; rw [if_pos hh]
    | false => rw [if_pos ⟨hc.1, hc.2.1, rfl, hc.2.2⟩, keepM_bag l e hh]
  · rw [if_neg hc, if_neg (fun h => hc ⟨h.1, h.2.1, h.2.2.2⟩)]
theorem left_rem {u : Nat → Int} {B : List (Dt × EvV)} (hs : heldB B) {d : Dt} (h : hasP u d.1 d.2) : leftE u (remD B d) = leftE u B := by
  refine sorted_ext ((sorted_rem hs.1 d).filter _) (hs.1.filter _) fun a x => ?_
  unfold leftE keepE
  rw [List.mem_filter, List.mem_filter, mem_rem hs.1]
  constructor
  · rintro ⟨⟨_, h1⟩, h2⟩; exact ⟨h1, h2⟩
  · rintro ⟨h1, h2⟩
    refine ⟨⟨fun hd => ?_, h1⟩, h2⟩
    subst hd
    simp [goesE, h] at h2
/-- What is told hangs on what is left alone. -/
theorem next_of_left {u : Nat → Int} {B K : List (Dt × EvV)} (h : leftE u B = leftE u K) : nextE u B = nextE u K ∧ restE u B = restE u K := by
  have h1 : nextE u B = nextE u K := by unfold nextE; rw [h]
  exact ⟨h1, by unfold restE; rw [h1, h]⟩
def foE (w0 : World) (F : Nat → Prop) (β b : Nat) (B : Option Addr) (cap : Nat) (M : List EvV) (u : Nat → Int) (out : List EvV) (O : Option Addr) (oc : Nat) (i : Nat) (L : Option Addr) (lc : Nat) (left : List EvV) : Env :=
  [(0, .ex (ptr β)), (5, .ex (ptr b)), (7, .ex (.slice O out.length oc)), (8, .ex (.slice L left.length lc)), (37, .ex (vi M.length)), (38, .ex (vi i)),
   (1000, heap (fun b => F b ∨ w0.heap.size ≤ b) [obj β [.slice B M.length cap], rowEv B M.length cap (M.flatMap EvV.enc), obj b (vList u), rowEv O out.length oc (out.flatMap EvV.enc), rowEv L left.length lc (left.flatMap EvV.enc)])]
def fmE (w0 : World) (F : Nat → Prop) (β b : Nat) (u : Nat → Int) (M : List EvV) : Env :=
  [(0, .ex (ptr β)), (5, .ex (ptr b)), (1000, heap (fun b => F b ∨ w0.heap.size ≤ b) [refB β M, obj b (vList u)])]
def flE (w0 : World) (F : Nat → Prop) (β b : Nat) (u : Nat → Int) (M : List EvV) (out : List EvV) (O : Option Addr) (oc : Nat) : Env :=
  [(0, .ex (ptr β)), (5, .ex (ptr b)), (7, .ex (.slice O out.length oc)), (1000, heap (fun b => F b ∨ w0.heap.size ≤ b) [refB β M, obj b (vList u), rowEv O out.length oc (out.flatMap EvV.enc)])]
def faE (w0 : World) (F : Nat → Prop) (β b : Nat) (u : Nat → Int) (left : List EvV) (L : Option Addr) (lc : Nat) (out : List EvV) (O : Option Addr) (oc : Nat) (j : Nat) (at_ : Int) : Env :=
  [(0, .ex (ptr β)), (5, .ex (ptr b)), (7, .ex (.slice O out.length oc)), (8, .ex (.slice L left.length lc)), (10, .ex (vi at_)), (11, .ex (vi ((left.length : Int) - 1 - j))),
   (1000, heap (fun b => F b ∨ w0.heap.size ≤ b) [obj β [.slice L left.length lc], obj b (vList u), rowEv O out.length oc (out.flatMap EvV.enc), rowEv L left.length lc (left.flatMap EvV.enc)])]
def atOk (left : List EvV) (u : Nat → Int) (j : Nat) (at_ : Int) : Prop :=
  (at_ = -1 ∧ ∀ (k : Nat) y, left[k]? = some y → left.length - j ≤ k → mayB y u = false) ∨ ∃ p : Nat, at_ = p ∧ left.length - j ≤ p ∧ (∃ y, left[p]? = some y ∧ mayB y u = true) ∧ ∀ (k : Nat) y, left.length - j ≤ k → k < p → left[k]? = some y → mayB y u = false
abbrev FS := (Nat → Int) × List EvV × List (Dt × EvV) × List EvV × Option Addr × Nat
theorem refOffer_fn (β : Nat) (ML : List EvV) (hB : heldB (bagOf ML)) (hl : ML.length ≤ 64) (e : EvV) (he : e.okV) (v : Nat → Int) (hv : okV v) :
    SpcC Try.prog 39 [.ex (ptr β), .ex (aggE e), .ex (aggV v)] (refB β ML) (fun _ : Option Addr × Nat => True) (fun x => .ex (.slice x.1 (toldE v (comeE e v (bagOf ML))).1.length x.2))
      (fun x => sepC (refB β ((toldE v (comeE e v (bagOf ML))).2.map (·.2))) (rowEv x.1 (toldE v (comeE e v (bagOf ML))).1.length x.2 ((toldE v (comeE e v (bagOf ML))).1.flatMap EvV.enc))) := by
  have hC := held_come (e := e) (v := v) hB he
  have hCl := len_come (e := e) (v := v) (B := bagOf ML)
  rw [bagOf_len] at hCl
  have hMo : ∀ x ∈ ML, x.okV := fun x hx => (hB.2 (dotE x, x) (bagOf_mem.2 ⟨hx, rfl⟩)).2.1
  rw [← comeM_bag] at hC hCl ⊢
  refine SpcC.intro Try.func39 rfl (Nat.le_of_ble_eq_true rfl) fun w0 F => ?_
  have hI := kept_below F w0
  have hA := Own.kept F w0
  refine J.exC (key := 1000) (q := 0) rfl rfl fun xx => ?_
  refine J.sepC (key := 1000) (q := 0) rfl rfl ?_
  obtain ⟨B, cap⟩ := xx
  dsimp only
  repeat (refine J.seq (J.region mixed hI (by kernel_rfl) ?_))
  refine Plan.boxC (key := 1000) rfl rfl rfl (by intro _ e; cases e; decide) rfl rfl hA fun a => ?_
  refine Plan.boxC (key := 1000) rfl rfl rfl (by intro _ e; cases e; decide) rfl rfl hA fun b => ?_
  repeat (refine Plan.assign rfl rfl rfl rfl ?_)
  refine J.seqMid (σ := Unit) (fun _ => fmE w0 F β b v (comeM e v ML)) (fun _ => True) ?_ ?_
  · repeat (refine J.seq (J.region mixed hI (by kernel_rfl) ?_))
    refine Plan.loadAggC (key := 1000) (q := 2) (vs := e.enc) rfl rfl rfl rfl rfl rfl (obj_reads rfl) Try.underlying86 rfl (by rw [encE]; kernel_rfl) (by decide) ?_
    refine Plan.call (B := 0) rfl rfl rfl (refRight_fn e he) Try.func41 rfl rfl (fun _ _ => Nat.zero_le _) (by repeat (first | exact Opnds.nil | refine Opnds.cons rfl (by exact Sub.refl _) ?_)) ?_
    by_cases hR : rightP e
    rotate_left
    · have hc : comeM e v ML = ML := by unfold comeM; rw [if_neg (fun h => hR h.1)]
      rw [hc]
      refine Plan.boolv (y := false) (decide_eq_false hR) ?_
      repeat (first | refine Plan.move rfl rfl rfl rfl ?_ | refine Plan.skip rfl rfl ?_ | refine Plan.pick rfl rfl rfl rfl rfl ?_ | refine J.condF rfl ?_ | refine J.skip ?_)
      exact Nrm.mid () trivial (Weak.cons rfl (Sub.refl _) (Weak.cons rfl (Sub.refl _) (Weak.cons rfl (Sub.heap ((Ent.pickC (H' := [obj β [.slice B ML.length cap], rowEv B ML.length cap (ML.flatMap EvV.enc), obj b (aggV v).cells.toList]) [0, 1, 3] rfl rfl).trans ((Ent.splitC (H1 := [obj β [.slice B ML.length cap], rowEv B ML.length cap (ML.flatMap EvV.enc)])).trans (Ent.sep refB_close (Ent.refl _))))) Weak.nil)))
    refine Plan.boolv (y := true) (decide_eq_true hR) ?_
    repeat (refine Plan.move rfl rfl rfl rfl ?_)
    refine Plan.loadAggC (key := 1000) (q := 3) (vs := vList v) rfl rfl rfl rfl rfl rfl (obj_reads rfl) Try.underlying42 rfl (by kernel_rfl) (by decide) ?_
    repeat (refine Plan.fieldC rfl rfl rfl rfl (by exact Try.underlying86) rfl (by kernel_rfl) (by exact (rfl : _ = 0)) ?_)
    refine Plan.loadAggC (key := 1000) (q := 2) (off := 0) (vs := [vi e.r, vi e.n]) rfl rfl rfl rfl rfl rfl (obj_reads rfl) Try.underlying28 rfl (by kernel_rfl) (by decide) ?_
    refine Plan.call (B := 0) rfl rfl rfl (refHas_fn v e.r e.n) Try.func51 rfl rfl (fun _ _ => Nat.zero_le _) (by repeat (first | exact Opnds.nil | refine Opnds.cons rfl (by exact Sub.refl _) ?_)) ?_
    by_cases hH : hasP v e.r e.n
    · have hc : comeM e v ML = ML := by unfold comeM; rw [if_neg (fun h => h.2.1 hH)]
      rw [hc]
      refine Plan.boolv (y := true) (decide_eq_true hH) ?_
      repeat (first | refine Plan.move rfl rfl rfl rfl ?_ | refine Plan.skip rfl rfl ?_ | refine Plan.pick rfl rfl rfl rfl rfl ?_ | refine Plan.un rfl rfl rfl rfl rfl ?_ | refine J.condF rfl ?_ | refine J.skip ?_)
      exact Nrm.mid () trivial (Weak.cons rfl (Sub.refl _) (Weak.cons rfl (Sub.refl _) (Weak.cons rfl (Sub.heap ((Ent.pickC (H' := [obj β [.slice B ML.length cap], rowEv B ML.length cap (ML.flatMap EvV.enc), obj b (aggV v).cells.toList]) [0, 1, 3] rfl rfl).trans ((Ent.splitC (H1 := [obj β [.slice B ML.length cap], rowEv B ML.length cap (ML.flatMap EvV.enc)])).trans (Ent.sep refB_close (Ent.refl _))))) Weak.nil)))
    refine Plan.boolv (y := false) (decide_eq_false hH) ?_
    repeat (first | refine Plan.move rfl rfl rfl rfl ?_ | refine Plan.pick rfl rfl rfl rfl rfl ?_ | refine Plan.un rfl rfl rfl rfl rfl ?_ | refine Plan.nilOk rfl rfl rfl rfl ?_ | refine Plan.fieldC rfl rfl rfl rfl (by first | exact Try.underlying86 | exact Try.underlying75) rfl (by kernel_rfl) (by exact (rfl : _ = 0)) ?_ | refine Plan.loadC (key := 1000) (q := 0) rfl rfl rfl rfl rfl rfl (obj_reads1 rfl) (by first | exact Try.underlying3 | exact Try.underlying73) (by rfl) (by decide) ?_)
    refine Plan.lenE rfl rfl rfl rfl Try.underlying73 ?_
    repeat (first | refine Plan.pick rfl rfl rfl rfl rfl ?_ | (refine Plan.ints rfl rfl rfl rfl rfl rfl ?_; (skip)))
    by_cases hL : ML.length < 64
    · have hc : comeM e v ML = keepM ML e := by unfold comeM; rw [if_pos ⟨hR, hH, hL⟩]
      rw [hc]
      refine Plan.boolv (y := true) (decide_eq_true (by omega)) ?_
      repeat (fail)
      refine J.condT rfl ?_
      refine J.regroup (key := 1000) [refB β ML, obj a (aggE e).cells.toList, obj b (aggV v).cells.toList] rfl ((Ent.pickC (H' := [obj β [.slice B ML.length cap], rowEv B ML.length cap (ML.flatMap EvV.enc), obj a (aggE e).cells.toList, obj b (aggV v).cells.toList]) [0, 1, 2, 3] rfl rfl).trans ((Ent.splitC (H1 := [obj β [.slice B ML.length cap], rowEv B ML.length cap (ML.flatMap EvV.enc)])).trans (Ent.sep refB_close (Ent.refl _)))) ?_
      repeat (first | refine Plan.move rfl rfl rfl rfl ?_ | refine J.region mixed hI (by kernel_rfl) ?_)
      refine Plan.loadAggC (key := 1000) (q := 1) (vs := e.enc) rfl rfl rfl rfl rfl rfl (obj_reads rfl) Try.underlying86 rfl (by rw [encE]; kernel_rfl) (by decide) ?_
      refine Plan.callC (key := 1000) (q := 0) rfl rfl rfl (keep_fn β ML hB.1 (by omega) hMo e he) Try.func64 rfl rfl (by intro _ e; cases e; decide) (by repeat (first | exact Opnds.nil | refine Opnds.cons rfl (by exact Sub.refl _) ?_)) rfl hA rfl ?_
      intro _ _
      repeat (fail)
      exact Nrm.mid () trivial (Weak.cons rfl (Sub.refl _) (Weak.cons rfl (Sub.refl _) (Weak.cons rfl (Sub.heap (Ent.pickC [0, 2] rfl rfl)) Weak.nil)))
    · have hc : comeM e v ML = ML := by unfold comeM; rw [if_neg (fun h => hL h.2.2)]
      rw [hc]
      refine Plan.boolv (y := false) (decide_eq_false (by omega)) ?_
      repeat (first | refine J.condF rfl ?_ | refine J.skip ?_)
      exact Nrm.mid () trivial (Weak.cons rfl (Sub.refl _) (Weak.cons rfl (Sub.refl _) (Weak.cons rfl (Sub.heap ((Ent.pickC (H' := [obj β [.slice B ML.length cap], rowEv B ML.length cap (ML.flatMap EvV.enc), obj b (aggV v).cells.toList]) [0, 1, 3] rfl rfl).trans ((Ent.splitC (H1 := [obj β [.slice B ML.length cap], rowEv B ML.length cap (ML.flatMap EvV.enc)])).trans (Ent.sep refB_close (Ent.refl _))))) Weak.nil)))
  intro _ _
  obtain ⟨C, hCe⟩ : ∃ C, C = comeM e v ML := ⟨_, rfl⟩
  rw [← hCe] at hC hCl ⊢
  rw [bagOf_len] at hCl
  repeat (first | refine Plan.assign rfl rfl rfl rfl ?_ | refine J.seq (J.region mixed hI (by kernel_rfl) ?_))
  refine J.nilRow (key := 1000) 86 26 rfl ?_
  refine J.block (J.loop (fun s : FS => flE w0 F β b s.1 s.2.1 s.2.2.2.1 s.2.2.2.2.1 s.2.2.2.2.2) (fun s : FS => okV s.1 ∧ heldB (bagOf s.2.1) ∧ heldB s.2.2.1 ∧ s.2.1.length ≤ 65 ∧ s.2.2.2.1.length + s.2.2.1.length ≤ 65 ∧ leftE s.1 (bagOf s.2.1) = leftE s.1 s.2.2.1 ∧ toldE v (bagOf C) = (s.2.2.2.1 ++ (toldE s.1 s.2.2.1).1, (toldE s.1 s.2.2.1).2)) (fun s => s.2.2.1.length) (v, C, bagOf C, [], none, 0) ⟨hv, hC, hC, by simp only; omega, by simp only [List.length_nil, bagOf_len]; omega, rfl, rfl⟩ ?_ ?_)
  · repeat (first | exact Weak.nil | refine Weak.cons rfl (Sub.refl _) ?_)
  rintro ⟨u, M, K, out, O, oc⟩ ⟨hu, hM, hK, hMl, hol, hLK, hinv⟩
  simp only at hu hM hK hMl hol hLK hinv
  change J _ _ _ _ _ (flE w0 F β b u M out O oc)
  refine J.block ?_
  refine J.exC (key := 1000) (q := 0) rfl rfl fun xx => ?_
  refine J.sepC (key := 1000) (q := 0) rfl rfl ?_
  obtain ⟨B1, cap1⟩ := xx
  dsimp only
  refine J.regroup (key := 1000) [obj β [.slice B1 M.length cap1], rowEv B1 M.length cap1 (M.flatMap EvV.enc), obj b (vList u), rowEv O out.length oc (out.flatMap EvV.enc)] rfl (Ent.pickC [0, 3, 1, 2] rfl rfl) ?_
  repeat (first | refine Plan.move rfl rfl rfl rfl ?_ | refine Plan.assign rfl rfl rfl rfl ?_ | refine Plan.nilOk rfl rfl rfl rfl ?_ | refine Plan.fieldC rfl rfl rfl rfl (by first | exact Try.underlying86 | exact Try.underlying75) rfl (by kernel_rfl) (by exact (rfl : _ = 0)) ?_ | refine Plan.loadC (key := 1000) (q := 0) rfl rfl rfl rfl rfl rfl (obj_reads1 rfl) (by first | exact Try.underlying3 | exact Try.underlying73) (by rfl) (by decide) ?_ | refine J.seq (J.region mixed hI (by kernel_rfl) ?_) | refine J.seq (J.seq (J.region mixed hI (by kernel_rfl) ?_)))
  refine Plan.lenE rfl rfl rfl rfl Try.underlying73 ?_
  repeat (refine Plan.move rfl rfl rfl rfl ?_)
  refine J.nilRow (key := 1000) 86 26 rfl ?_
  refine J.block (J.loop (fun s : Nat × Option Addr × Nat => foE w0 F β b B1 cap1 M u out O oc s.1 s.2.1 s.2.2 (leftM u (M.take s.1))) (fun s => s.1 ≤ M.length) (fun s => M.length - s.1) (0, none, 0) (Nat.zero_le _) ?_ ?_)
  · repeat (first | exact Weak.nil | refine Weak.cons rfl (Sub.refl _) ?_)
  · rintro ⟨i, L, lc⟩ hi
    simp only at hi
    change J _ _ _ _ _ (foE w0 F β b B1 cap1 M u out O oc i L lc (leftM u (M.take i)))
    have hll : (leftM u (M.take i)).length ≤ i := by
      have := List.length_filter_le (fun e : EvV => !decide (hasP u e.r e.n)) (M.take i)
      rw [List.length_take] at this; unfold leftM; omega
    repeat (first | (refine Plan.ints rfl rfl rfl rfl rfl rfl ?_; (skip)) | refine J.seq (J.region mixed hI (by kernel_rfl) ?_))
    refine J.seq (J.condD rfl (fun hc => ?_) (fun hc => ?_))
    · have hlt : i < M.length := by omega
      refine J.factC (key := 1000) (q := 1) rfl rfl (fun w F h => row_room h) fun hrm => ?_
      obtain ⟨g, rfl⟩ : ∃ g, B1 = some ⟨g, 0, none⟩ := by
        cases B1 with
        | none => have := (hrm.2.2.2.1 rfl).1; omega
        | some ad => exact ⟨ad.block, by rw [← hrm.2.2.2.2 ad rfl]⟩
      have hat := flat_ev M hlt
      have hra : ((M.flatMap EvV.enc).drop (i * 26)).take M[i].enc.length = M[i].enc := by rw [hat, List.take_left]
      have hrd : ((M.flatMap EvV.enc).drop (i * 26)).take 2 = [vi M[i].r, vi M[i].n] := by rw [hat]; rfl
      have hls := leftM_succ u M hlt
      repeat (refine J.skip ?_)
      refine J.seq (J.block ?_)
      repeat (first | refine Plan.move rfl rfl rfl rfl ?_ | refine Plan.assign rfl rfl rfl rfl ?_ | refine J.seq (J.region mixed hI (by kernel_rfl) ?_))
      refine Plan.loadAggC (key := 1000) (q := 2) (vs := vList u) rfl rfl rfl rfl rfl rfl obj_whole Try.underlying42 rfl (by kernel_rfl) (by decide) ?_
      repeat (first | refine Plan.move rfl rfl rfl rfl ?_ | refine Plan.nilOk rfl rfl rfl rfl ?_ | refine Plan.fieldC rfl rfl rfl rfl (by first | exact Try.underlying86 | exact Try.underlying75) rfl (by kernel_rfl) (by exact (rfl : _ = 0)) ?_ | refine Plan.loadC (key := 1000) (q := 0) rfl rfl rfl rfl rfl rfl (obj_reads1 rfl) (by first | exact Try.underlying3 | exact Try.underlying73) (by rfl) (by decide) ?_)
      refine Plan.indexC (off := i * 26) rfl rfl rfl rfl rfl eltE hlt (by omega) ?_
      refine Plan.fieldC (off := i * 26) rfl rfl rfl rfl (by exact Try.underlying86) rfl (by kernel_rfl) rfl ?_
      refine Plan.loadAggC (key := 1000) (q := 1) (off := i * 26) (vs := [vi M[i].r, vi M[i].n]) rfl rfl rfl rfl rfl rfl (row_reads hrd) Try.underlying28 rfl (by kernel_rfl) (by decide) ?_
      refine Plan.call (B := 0) rfl rfl rfl (refHas_fn u M[i].r M[i].n) Try.func51 rfl rfl (fun _ _ => Nat.zero_le _) (by repeat (first | exact Opnds.nil | refine Opnds.cons rfl (by exact Sub.refl _) ?_)) ?_
      by_cases hh : hasP u M[i].r M[i].n
      · rw [if_pos hh] at hls
        refine Plan.boolv (y := true) (decide_eq_true hh) ?_
        repeat (first | refine Plan.move rfl rfl rfl rfl ?_ | (refine Plan.ints rfl rfl rfl rfl rfl rfl ?_; (refine Plan.int (i64r (by omega)) ?_)) | refine Plan.un rfl rfl rfl rfl rfl ?_ | refine J.region mixed hI (by kernel_rfl) ?_ | refine J.condF rfl ?_ | refine J.skip ?_)
        refine Plan.int (y := ((i + 1 : Nat) : Int)) (by omega) ?_
        repeat (fail)
        refine Nrm.next (ok := fun s : Nat × Option Addr × Nat => s.1 ≤ M.length) (s := (i, L, lc)) (i + 1, L, lc) (by simp only; omega) (by simp only; omega) ?_
        simp only
        rw [hls]
        repeat (first | exact Weak.nil | refine Weak.cons rfl (Sub.refl _) ?_)
      · rw [if_neg hh] at hls
        refine Plan.boolv (y := false) (decide_eq_false hh) ?_
        repeat (first | refine Plan.move rfl rfl rfl rfl ?_ | refine Plan.un rfl rfl rfl rfl rfl ?_ | refine Plan.nilOk rfl rfl rfl rfl ?_ | refine Plan.fieldC rfl rfl rfl rfl (by first | exact Try.underlying86 | exact Try.underlying75) rfl (by kernel_rfl) (by exact (rfl : _ = 0)) ?_ | refine Plan.loadC (key := 1000) (q := 0) rfl rfl rfl rfl rfl rfl (obj_reads1 rfl) (by first | exact Try.underlying3 | exact Try.underlying73) (by rfl) (by decide) ?_ | refine J.region mixed hI (by kernel_rfl) ?_ | refine J.condT rfl ?_)
        refine Plan.indexC (off := i * 26) rfl rfl rfl rfl rfl eltE hlt (by omega) ?_
        refine Plan.loadAggC (key := 1000) (q := 1) (off := i * 26) (vs := M[i].enc) rfl rfl rfl rfl rfl rfl (row_reads hra) Try.underlying86 rfl (by rw [encE]; kernel_rfl) (by decide) ?_
        refine Plan.lit (B := 0) rfl rfl rfl eltE rfl (fun _ _ => Nat.zero_le _) rfl (fun v hv => by rw [List.mem_singleton.1 hv]; rfl) (by decide) ?_
        refine Plan.appendC (key := 1000) (q := 4) (news := M[i].enc) rfl rfl rfl rfl rfl Sub.own eltE (by intro _ e; cases e; decide) rfl hA rfl (encE_one M[i]) (by rw [flat_len encE, encE]; omega) fun L' m' lc' hm' => ?_
        have hm2 : m' = (leftM u (M.take (i + 1))).length := by rw [hls, List.length_append]; rw [flat_len encE, encE] at hm'; show m' = _ + 1; omega
        subst hm2
        have hrow : (leftM u (M.take i)).flatMap EvV.enc ++ M[i].enc = (leftM u (M.take (i + 1))).flatMap EvV.enc := by rw [hls, List.flatMap_append, List.flatMap_cons, List.flatMap_nil, List.append_nil]
        rw [hrow]
        repeat (first | refine Plan.move rfl rfl rfl rfl ?_ | refine Plan.assign rfl rfl rfl rfl ?_ | (refine Plan.ints rfl rfl rfl rfl rfl rfl ?_; (refine Plan.int (i64r (by omega)) ?_)) | refine J.region mixed hI (by kernel_rfl) ?_)
        refine Plan.int (y := ((i + 1 : Nat) : Int)) (by omega) ?_
        repeat (fail)
        exact Nrm.next (ok := fun s : Nat × Option Addr × Nat => s.1 ≤ M.length) (s := (i, L, lc)) (i + 1, L', lc') (by simp only; omega) (by simp only; omega) (by repeat (first | exact Weak.nil | refine Weak.cons rfl (Sub.refl _) ?_))
    have hie : i = M.length := by omega
    subst hie
    refine J.exit ?_
    rw [List.take_length] at hll ⊢
    obtain ⟨left, hle⟩ : ∃ left, left = leftM u M := ⟨_, rfl⟩
    rw [← hle] at hll ⊢
    have hlb : bagOf left = leftE u K := by rw [hle, ← hLK]; exact bagOf_filter u M
    have hlh : heldB (bagOf left) := by rw [hlb]; exact held_left hK
    have hlx : ∀ x ∈ left, x.okV ∧ rightP x := fun x hx => (hlh.2 (dotE x, x) (bagOf_mem.2 ⟨hx, rfl⟩)).2
    have hfind : ∀ p, (bagOf left).find? (fun x => mayB x.2 u) = p → nextE u K = p := fun p hp => by unfold nextE; rw [← hlb]; exact hp
    repeat (first | refine Plan.move rfl rfl rfl rfl ?_ | refine Plan.nilOk rfl rfl rfl rfl ?_ | refine Plan.fieldC rfl rfl rfl rfl (by first | exact Try.underlying86 | exact Try.underlying75) rfl (by kernel_rfl) (by exact (rfl : _ = 0)) ?_ | refine J.seq (J.region mixed hI (by kernel_rfl) ?_))
    refine Plan.storeC (key := 1000) (q := 0) rfl rfl rfl rfl rfl rfl (by simp [Value.cells, Value.oneCell', str]) (by kernel_rfl) rfl hA rfl (obj_pat1 (Nat.le_of_ble_eq_true rfl)) ?_
    repeat (first | refine Plan.move rfl rfl rfl rfl ?_ | refine Plan.assign rfl rfl rfl rfl ?_ | refine J.seq (J.region mixed hI (by kernel_rfl) ?_) | refine J.seq (J.seq (J.region mixed hI (by kernel_rfl) ?_)))
    refine Plan.lenE rfl rfl rfl rfl Try.underlying73 ?_
    repeat (first | refine Plan.assign rfl rfl rfl rfl ?_ | (refine Plan.ints rfl rfl rfl rfl rfl rfl ?_; (refine Plan.int (i64r (by omega)) ?_)))
    refine Plan.int (y := (left.length : Int) - 1 - ((0 : Nat) : Int)) (by omega) ?_
    refine J.block (J.loop (fun s : Nat × Int => faE w0 F β b u left L lc out O oc s.1 s.2) (fun s => s.1 ≤ left.length ∧ atOk left u s.1 s.2) (fun s => left.length - s.1) (0, -1) ⟨Nat.zero_le _, .inl ⟨rfl, fun k y hy hk => by have := (List.getElem?_eq_some_iff.1 hy).1; omega⟩⟩ ?_ ?_)
    · exact Weak.cons rfl (Sub.refl _) (Weak.cons rfl (Sub.refl _) (Weak.cons rfl (Sub.refl _) (Weak.cons rfl (Sub.refl _) (Weak.cons rfl (Sub.refl _) (Weak.cons rfl (Sub.refl _) (Weak.cons rfl (Sub.heap (Ent.pickC [0, 2, 3, 4] rfl rfl)) Weak.nil))))))
    rintro ⟨j, at_⟩ ⟨hj, hat⟩
    simp only at hj hat
    change J _ _ _ _ _ (faE w0 F β b u left L lc out O oc j at_)
    repeat (first | refine Plan.move rfl rfl rfl rfl ?_ | (refine Plan.ints rfl rfl rfl rfl rfl rfl ?_; (skip)) | refine J.seq (J.seq (J.region mixed hI (by kernel_rfl) ?_)))
    refine J.condD rfl (fun hcj => ?_) (fun hcj => ?_)
    · obtain ⟨q, hq⟩ : ∃ q, q = left.length - 1 - j := ⟨_, rfl⟩
      have hql : q < left.length := by omega
      have hxq : left[q]? = some left[q] := List.getElem?_eq_getElem hql
      obtain ⟨hqo, hqr⟩ := hlx _ (List.getElem_mem hql)
      refine J.factC (key := 1000) (q := 3) rfl rfl (fun w F h => row_room h) fun hrm => ?_
      obtain ⟨g, rfl⟩ : ∃ g, L = some ⟨g, 0, none⟩ := by
        cases L with
        | none => have := (hrm.2.2.2.1 rfl).1; omega
        | some ad => exact ⟨ad.block, by rw [← hrm.2.2.2.2 ad rfl]⟩
      have hra : ((left.flatMap EvV.enc).drop (q * 26)).take left[q].enc.length = left[q].enc := by rw [flat_ev left hql, List.take_left]
      repeat (refine J.skip ?_)
      refine J.seq (J.block ?_)
      repeat (first | refine Plan.move rfl rfl rfl rfl ?_ | refine J.seq (J.region mixed hI (by kernel_rfl) ?_))
      refine Plan.int (y := ((q : Nat) : Int)) (by omega) ?_
      refine Plan.indexC (off := q * 26) rfl rfl rfl rfl rfl eltE hql (by omega) ?_
      refine Plan.loadAggC (key := 1000) (q := 3) (off := q * 26) (vs := left[q].enc) rfl rfl rfl rfl rfl rfl (row_reads hra) Try.underlying86 rfl (by rw [encE]; kernel_rfl) (by decide) ?_
      refine Plan.loadAggC (key := 1000) (q := 1) (vs := vList u) rfl rfl rfl rfl rfl rfl obj_whole Try.underlying42 rfl (by kernel_rfl) (by decide) ?_
      refine Plan.call (B := 0) rfl rfl rfl (refMay_fn left[q] u ⟨hqr.1.1, hqr.1.2.1⟩) Try.func42 rfl rfl (fun _ _ => Nat.zero_le _) (by repeat (first | exact Opnds.nil | refine Opnds.cons rfl (by exact Sub.refl _) ?_)) ?_
      refine J.cond rfl (fun hm => ?_) (fun hm => ?_)
      · repeat (first | refine Plan.move rfl rfl rfl rfl ?_ | refine Plan.assign rfl rfl rfl rfl ?_ | (refine Plan.ints rfl rfl rfl rfl rfl rfl ?_; (refine Plan.int (i64r (by omega)) ?_)) | refine J.region mixed hI (by kernel_rfl) ?_)
        refine Plan.int (y := (left.length : Int) - 1 - ((j + 1 : Nat) : Int)) (by omega) ?_
        refine Nrm.next (ok := fun s : Nat × Int => s.1 ≤ left.length ∧ atOk left u s.1 s.2) (s := (j, at_)) (j + 1, (q : Int)) ⟨by simp only; omega, .inr ⟨q, rfl, by simp only; omega, ⟨_, hxq, hm⟩, fun k y h1 h2 _ => by simp only at h1; omega⟩⟩ (by simp only; omega) (Weak.cons rfl (Sub.refl _) (Weak.cons rfl (Sub.refl _) (Weak.cons rfl (Sub.refl _) (Weak.cons rfl (Sub.refl _) (Weak.cons rfl (Sub.of_eq (congrArg (fun z : Int => Fa.ex (vi z)) (show (left.length : Int) - 1 - j = q by omega))) (Weak.cons rfl (Sub.refl _) (Weak.cons rfl (Sub.refl _) Weak.nil)))))))
      · repeat (first | refine Plan.move rfl rfl rfl rfl ?_ | refine Plan.assign rfl rfl rfl rfl ?_ | (refine Plan.ints rfl rfl rfl rfl rfl rfl ?_; (refine Plan.int (i64r (by omega)) ?_)) | refine J.region mixed hI (by kernel_rfl) ?_ | refine J.skip ?_)
        refine Plan.int (y := (left.length : Int) - 1 - ((j + 1 : Nat) : Int)) (by omega) ?_
        refine Nrm.next (ok := fun s : Nat × Int => s.1 ≤ left.length ∧ atOk left u s.1 s.2) (s := (j, at_)) (j + 1, at_) ⟨by simp only; omega, ?_⟩ (by simp only; omega) (by repeat (first | exact Weak.nil | refine Weak.cons rfl (Sub.refl _) ?_))
        simp only
        rcases hat with ⟨h1, h2⟩ | ⟨p, h1, h2, h3, h4⟩
        · refine .inl ⟨h1, fun k y hy hk => ?_⟩
          by_cases hkq : k = q
          · subst hkq; rw [hxq] at hy; cases hy; exact hm
          · exact h2 k y hy (by omega)
        · refine .inr ⟨p, h1, by omega, h3, fun k y hk1 hk2 hy => ?_⟩
          by_cases hkq : k = q
          · subst hkq; rw [hxq] at hy; cases hy; exact hm
          · exact h4 k y (by omega) hk2 hy
    have hje : j = left.length := by omega
    subst hje
    refine J.exit ?_
    rcases hat with ⟨rfl, hno⟩ | ⟨p, rfl, _, ⟨y, hy, hym⟩, hnp⟩
    · have hn : nextE u K = none := hfind _ (List.find?_eq_none.2 fun x hx => by
        obtain ⟨h1, h2⟩ := bagOf_mem.1 (show (x.1, x.2) ∈ bagOf left from hx)
        obtain ⟨k, hk, e1⟩ := List.getElem_of_mem h1
        rw [hno k x.2 (by rw [List.getElem?_eq_getElem hk, e1]) (by omega)]; decide)
      have hT : toldE v (bagOf C) = (out, bagOf left) := by
        have hr : restE u K = leftE u K := by unfold restE; rw [hn]
        rw [hinv, told_none hK hn, List.append_nil, hr, hlb]
      have hback : (bagOf left).map (·.2) = left := by unfold bagOf; rw [List.map_map]; exact List.map_id _
      rw [hT]
      simp only
      rw [hback]
      repeat (first | refine Plan.move rfl rfl rfl rfl ?_ | refine Plan.assign rfl rfl rfl rfl ?_ | (refine Plan.ints rfl rfl rfl rfl rfl rfl ?_; (skip)) | refine J.seq (J.region mixed hI (by kernel_rfl) ?_) | refine J.seq (J.seq (J.region mixed hI (by kernel_rfl) ?_)) | refine J.condT rfl ?_)
      refine J.ret (Nrm.retC1 (key := 1000) (O, oc) rfl rfl rfl trivial (Sub.refl _) ?_)
      exact (Ent.pickC (H' := [obj β [.slice L left.length lc], rowEv L left.length lc (left.flatMap EvV.enc), rowEv O out.length oc (out.flatMap EvV.enc)]) [0, 3, 2] rfl rfl).trans ((Ent.splitC (H1 := [obj β [.slice L left.length lc], rowEv L left.length lc (left.flatMap EvV.enc)])).trans (Ent.sep refB_close Ent.one))
    · have hpl := (List.getElem?_eq_some_iff.1 hy).1
      have hbp : (bagOf left)[p]? = some (dotE y, y) := bagOf_at hy
      have hn : nextE u K = some (dotE y, y) := hfind _ (find_at (fun k z hz hk => by
        unfold bagOf at hz
        rw [List.getElem?_map, Option.map_eq_some_iff] at hz
        obtain ⟨z', hz', rfl⟩ := hz
        exact hnp k z' (by omega) hk hz') hbp hym)
      obtain ⟨hyo, hyr⟩ := hlx y (List.mem_of_getElem? hy)
      have hr0 : 0 ≤ y.r ∧ y.r < 16 := ⟨hyr.1.1, hyr.1.2.1⟩
      have hlt := rest_lt hn hK
      have hts := told_some hK hn
      have hrest : restE u K = remD (bagOf left) (dotE y) := by unfold restE; rw [hn, hlb]
      have hlk2 : leftE (setV u y) (bagOf left) = leftE (setV u y) (restE u K) := by
        rw [hrest, left_rem hlh]
        refine ⟨hyr.1, ?_⟩
        show y.n ≤ setV u y y.r.toNat
        unfold setV; rw [if_pos rfl]; exact Int.le_refl _
      refine J.factC (key := 1000) (q := 3) rfl rfl (fun w F h => row_room h) fun hrm => ?_
      obtain ⟨g, rfl⟩ : ∃ g, L = some ⟨g, 0, none⟩ := by
        cases L with
        | none => have := (hrm.2.2.2.1 rfl).1; omega
        | some ad => exact ⟨ad.block, by rw [← hrm.2.2.2.2 ad rfl]⟩
      have hyp : left[p] = y := by have := List.getElem?_eq_getElem hpl; rw [hy] at this; exact (Option.some.inj this).symm
      have hra : ((left.flatMap EvV.enc).drop (p * 26)).take y.enc.length = y.enc := by rw [flat_ev left hpl, hyp, List.take_left]
      repeat (first | refine Plan.move rfl rfl rfl rfl ?_ | (refine Plan.ints rfl rfl rfl rfl rfl rfl ?_; (skip)) | refine J.seq (J.region mixed hI (by kernel_rfl) ?_) | refine J.seq (J.seq (J.region mixed hI (by kernel_rfl) ?_)) | refine J.condF rfl ?_ | refine J.skip ?_)
      try refine Plan.boolv (y := false) (show decide ((p : Int) < 0) = false from decide_eq_false (by omega)) ?_
      repeat (fail)
      refine Plan.indexC (off := p * 26) rfl rfl rfl rfl rfl eltE hpl (by omega) ?_
      refine Plan.loadAggC (key := 1000) (q := 3) (off := p * 26) (vs := y.enc) rfl rfl rfl rfl rfl rfl (row_reads hra) Try.underlying86 rfl (by rw [encE]; kernel_rfl) (by decide) ?_
      refine Plan.allocC (key := 1000) (z := .agg ev0.enc.toArray) rfl rfl rfl (by intro _ e; cases e; decide) (by kernel_rfl) rfl hA fun c => ?_
      refine Plan.storeC (key := 1000) (q := 4) (off := 0) rfl rfl rfl rfl rfl rfl (fun u hu => encE_one y u hu) (by show _ = some y.enc.toArray.size; kernel_rfl) rfl hA rfl (obj_pat (Nat.le_of_ble_eq_true rfl)) ?_
      repeat (first | refine Plan.move rfl rfl rfl rfl ?_ | refine J.seq (J.region mixed hI (by kernel_rfl) ?_))
      refine Plan.loadAggC (key := 1000) (q := 4) (off := 0) (vs := y.enc) rfl rfl rfl rfl rfl rfl (obj_reads rfl) Try.underlying86 rfl (by rw [encE]; kernel_rfl) (by decide) ?_
      refine Plan.lit (B := 0) rfl rfl rfl eltE rfl (fun _ _ => Nat.zero_le _) rfl (fun v hv => by rw [List.mem_singleton.1 hv]; rfl) (by decide) ?_
      refine Plan.appendC (key := 1000) (q := 2) (news := y.enc) rfl rfl rfl rfl rfl Sub.own eltE (by intro _ e; cases e; decide) rfl hA rfl (encE_one y) (by rw [flat_len encE, encE]; omega) fun O' m' oc' hm' => ?_
      have hm2 : m' = (out ++ [y]).length := by rw [flat_len encE, encE] at hm'; rw [List.length_append]; show m' = _ + 1; omega
      subst hm2
      have hrow : out.flatMap EvV.enc ++ y.enc = (out ++ [y]).flatMap EvV.enc := by simp only [List.flatMap_append, List.flatMap_cons, List.flatMap_nil, List.append_nil]
      rw [hrow]
      repeat (first | refine Plan.assign rfl rfl rfl rfl ?_ | refine Plan.fieldC rfl rfl rfl rfl (by first | exact Try.underlying86 | exact Try.underlying28) rfl (by kernel_rfl) (by exact (rfl : _ = 0)) ?_ | refine J.region mixed hI (by kernel_rfl) ?_)
      refine Plan.loadC (key := 1000) (q := 4) (off := 0) rfl rfl rfl rfl rfl rfl (obj_reads1 rfl) Try.underlying3 rfl (by decide) ?_
      repeat (refine Plan.fieldC rfl rfl rfl rfl (by first | exact Try.underlying86 | exact Try.underlying28) rfl (by kernel_rfl) (by first | exact (rfl : _ = 0) | exact (rfl : _ = 1)) ?_)
      refine Plan.loadC (key := 1000) (q := 4) (off := 1) rfl rfl rfl rfl rfl rfl (obj_reads1 rfl) Try.underlying3 rfl (by decide) ?_
      refine Plan.indexArr (off := y.r.toNat) (len := 16) (sz := 1) rfl rfl rfl rfl rfl Try.underlying42 (by kernel_rfl) hr0.1 (by omega) (by simp) ?_
      refine Plan.storeC (key := 1000) (q := 1) rfl rfl rfl rfl rfl rfl (by simp [Value.cells, Value.oneCell']) (by kernel_rfl) rfl hA rfl (obj_pat1 (show y.r.toNat < 16 by omega)) ?_
      have hset : (vList u).set y.r.toNat (vi y.n) = vList (setV u y) := set_vL u y.n (by omega)
      rw [hset]
      refine Nrm.next (ok := fun s : FS => okV s.1 ∧ heldB (bagOf s.2.1) ∧ heldB s.2.2.1 ∧ s.2.1.length ≤ 65 ∧ s.2.2.2.1.length + s.2.2.1.length ≤ 65 ∧ leftE s.1 (bagOf s.2.1) = leftE s.1 s.2.2.1 ∧ toldE v (bagOf C) = (s.2.2.2.1 ++ (toldE s.1 s.2.2.1).1, (toldE s.1 s.2.2.1).2)) (s := (u, M, K, out, O, oc)) (setV u y, left, restE u K, out ++ [y], O', oc') ⟨okV_set hu hyo, hlh, held_rest hK, by simp only; omega, by simp only [List.length_append, List.length_cons, List.length_nil]; omega, hlk2, by simp only; rw [hinv, hts, List.append_assoc]; rfl⟩ (by simp only; omega) ?_
      exact Weak.cons rfl (Sub.refl _) (Weak.cons rfl (Sub.refl _) (Weak.cons rfl (Sub.refl _) (Weak.cons rfl (Sub.heap ((Ent.pickC (H' := [obj β [.slice (some ⟨g, 0, none⟩) left.length lc], rowEv (some ⟨g, 0, none⟩) left.length lc (left.flatMap EvV.enc), obj b (vList (setV u y)), rowEv O' (out ++ [y]).length oc' ((out ++ [y]).flatMap EvV.enc)]) [0, 3, 1, 2] rfl rfl).trans ((Ent.splitC (H1 := [obj β [.slice (some ⟨g, 0, none⟩) left.length lc], rowEv (some ⟨g, 0, none⟩) left.length lc (left.flatMap EvV.enc)])).trans (Ent.sep refB_close (Ent.refl _))))) Weak.nil)))
end Go.Proofs.Ytkhcjedlopiicaa
