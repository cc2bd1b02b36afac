/-
  Drawn regions in which memory is turned ahead of operations whose values are known at any time.
-/
import Derived.Test.YtkhcjedlopiicaaFreeDeep
set_option linter.unusedSimpArgs false
set_option linter.unusedVariables false
set_option maxRecDepth 20000
namespace Go.Free
open Go.RowKit

/-- The operations whose values are given: their numbers, and the values. -/
def lookV : List (Nat × Value) → Nat → Option Value
  | [], _ => none
  | (u, v) :: r, i => if u = i then some v else lookV r i
def substO (us : List (Nat × Value)) (i : Nat) (o : Oper) : Oper :=
  match lookV us i with
  | some v => { o with op := .assign (.const v), guard := none, pos := "given" }
  | none => o
def substL (us : List (Nat × Value)) : Nat → List Oper → List Oper
  | _, [] => []
  | k, o :: r => substO us k o :: substL us (k + 1) r
def subst (us : List (Nat × Value)) (ops : Array Oper) : Array Oper := (substL us 0 ops.toList).toArray
theorem substL_get (us : List (Nat × Value)) : ∀ (l : List Oper) (k i : Nat), (substL us k l)[i]? = (l[i]?).map (substO us (k + i))
  | [], k, i => by simp [substL]
  | o :: r, k, 0 => by simp [substL]
  | o :: r, k, i + 1 => by
    simp only [substL, List.getElem?_cons_succ]
    rw [substL_get us r (k + 1) i, show k + 1 + i = k + (i + 1) by omega]
theorem subst_get (us : List (Nat × Value)) (ops : Array Oper) (i : Nat) : (subst us ops)[i]? = (ops[i]?).map (substO us i) := by
  unfold subst
  rw [List.getElem?_toArray, substL_get, Array.getElem?_toList, Nat.zero_add]
theorem substL_length (us : List (Nat × Value)) : ∀ (l : List Oper) (k : Nat), (substL us k l).length = l.length
  | [], _ => rfl
  | o :: r, k => by simp [substL, substL_length us r (k + 1)]
theorem subst_dst (us : List (Nat × Value)) (ops : Array Oper) (i : Nat) : dst (subst us ops) i = dst ops i := by
  unfold dst
  rw [subst_get]
  cases ops[i]? with
  | none => rfl
  | some o => simp only [Option.map_some, Option.bind_some, substO]; split <;> rfl
theorem subst_before (us : List (Nat × Value)) (ops : Array Oper) : Region.before (subst us ops) = Region.before ops := by
  have key : ∀ (l : List Oper) (k : Nat) (acc : Array Nat), (substL us k l).foldl (fun acc o => acc.push (o.after.foldl (fun s e => if Region.binds .any e then s ||| 2 ^ e.on ||| acc.getD e.on 0 else s) 0)) acc =
      l.foldl (fun acc o => acc.push (o.after.foldl (fun s e => if Region.binds .any e then s ||| 2 ^ e.on ||| acc.getD e.on 0 else s) 0)) acc := by
    intro l
    induction l with
    | nil => intro k acc; rfl
    | cons o l ih =>
      intro k acc
      simp only [substL, List.foldl_cons]
      have ha : (substO us k o).after = o.after := by unfold substO; split <;> rfl
      rw [ha, ih]
  unfold Region.before
  rw [← Array.foldl_toList, ← Array.foldl_toList]
  unfold subst
  rw [List.toList_toArray]
  exact key _ _ _
/-- Each given one writes a slot that is there, which no other one writes, and who looks at it stands behind; none is marked but these. -/
def looseB (us : List (Nat × Value)) (ops : Array Oper) (n : Nat) : Bool :=
  (ops.all fun o => o.pos != "given") && us.all fun p =>
    match dst ops p.1 with
    | none => false
    | some d => decide (d < n) && (List.range ops.size).all fun j => (j == p.1 || dst ops j != some d) && (!(looks (subst us ops) j).contains d || ((Region.before ops).getD j 0).testBit p.1)
theorem lookV_mem {us : List (Nat × Value)} {i : Nat} {v : Value} (h : lookV us i = some v) : (i, v) ∈ us := by
  induction us with
  | nil => cases h
  | cons p r ih =>
    obtain ⟨u, x⟩ := p
    simp only [lookV] at h
    by_cases he : u = i
    · rw [if_pos he] at h; cases h; subst he; exact List.mem_cons_self
    · rw [if_neg he] at h; exact List.mem_cons_of_mem _ (ih h)
theorem given_pos {o : Oper} {d : Nat} {v : Value} (h : given o = some (d, v)) : o.pos = "given" := by
  unfold given at h
  split at h
  · split at h
    · rename_i hp; simpa using hp
    · cases h
  · cases h
theorem gv_subst {us : List (Nat × Value)} {ops : Array Oper} {n : Nat} (hB : looseB us ops n = true) {u d : Nat} {v : Value} (h : gv (subst us ops) u = some (d, v)) : lookV us u = some v ∧ dst ops u = some d := by
  unfold gv at h
  rw [subst_get] at h
  cases ho : ops[u]? with
  | none => rw [ho] at h; cases h
  | some o =>
    rw [ho] at h
    have h' : given (substO us u o) = some (d, v) := h
    simp only [looseB, Bool.and_eq_true] at hB
    unfold substO at h'
    cases hl : lookV us u with
    | none =>
      rw [hl] at h'
      have h1 := Array.all_eq_true_iff_forall_mem.1 hB.1 o (Array.mem_of_getElem? ho)
      rw [bne_iff_ne] at h1
      exact absurd (given_pos h') h1
    | some v' =>
      rw [hl] at h'
      obtain ⟨h1, h2, _⟩ := given_spec h'
      simp only [Op.assign.injEq, Operand.const.injEq] at h2
      exact ⟨by rw [h2], by simp only [dst, ho, Option.bind_some]; exact h1⟩
theorem subst_rel {us : List (Nat × Value)} {ops : Array Oper} {n : Nat} (hB : looseB us ops n = true) (ht : tidy ops n = true) (ht2 : tidy (subst us ops) n = true) : Rel ops (subst us ops) n := by
  have hB' := hB
  simp only [looseB, Bool.and_eq_true, List.all_eq_true] at hB'
  have hsz : (subst us ops).size = ops.size := by unfold subst; rw [List.size_toArray, substL_length, Array.length_toList]
  have hall : ∀ u d v, gv (subst us ops) u = some (d, v) → d < n ∧ ∀ j, (j ≠ u → dst ops j ≠ some d) ∧ (d ∈ looks (subst us ops) j → ((Region.before ops).getD j 0).testBit u = true) := fun u d v hg => by
    obtain ⟨h1, h2⟩ := gv_subst hB hg
    have h3 := hB'.2 (u, v) (lookV_mem h1)
    simp only [h2, Bool.and_eq_true, decide_eq_true_eq, List.all_eq_true, List.mem_range] at h3
    refine ⟨h3.1, fun j => ?_⟩
    by_cases hj : j < ops.size
    · have h4 := h3.2 j hj
      simp only [Bool.or_eq_true, beq_iff_eq, bne_iff_ne, ne_eq, Bool.not_eq_true', List.contains_eq_mem, decide_eq_false_iff_not] at h4
      refine ⟨fun hne => ?_, fun hm => ?_⟩
      · rcases h4.1 with h5 | h5
        · exact absurd h5 hne
        · exact h5
      · rcases h4.2 with h5 | h5
        · exact absurd hm h5
        · exact h5
    · refine ⟨fun _ => by simp [dst, Array.getElem?_eq_none (show ops.size ≤ j by omega)], fun hm => ?_⟩
      have : (subst us ops)[j]? = none := Array.getElem?_eq_none (by omega)
      simp [looks, this] at hm
  refine ⟨hsz, fun i hf => ?_, subst_dst us ops, subst_before us ops, ht2, ht, ⟨fun u d v hg => (hall u d v hg).1, fun u d v hg j hne => by rw [subst_dst]; exact ((hall u d v hg).2 j).1 hne, fun u d v hg j hm => by rw [subst_before]; exact ((hall u d v hg).2 j).2 hm⟩⟩
  rw [subst_get]
  cases ho : ops[i]? with
  | none => rfl
  | some o =>
    simp only [Option.map_some, Option.some.injEq]
    cases hl : lookV us i with
    | none => simp [substO, hl]
    | some v =>
      exfalso
      have h3 := hB'.2 (i, v) (lookV_mem hl)
      cases hd : dst ops i with
      | none => simp [hd] at h3
      | some d =>
        have hod : o.dst = some d := by simpa [dst, ho] using hd
        have : gv (subst us ops) i = some (d, v) := by
          unfold gv
          rw [subst_get, ho]
          simp [substO, hl, given, hod]
        rw [free_of this] at hf; cases hf
/-- What is given, as facts. -/
def factsU (ops : Array Oper) : List (Nat × Value) → Env
  | [] => []
  | (u, v) :: r => match dst ops u with | some d => (d, .ex v) :: factsU ops r | none => factsU ops r
/-- Those of them that stand ahead of an operation. -/
def aheadU (ops : Array Oper) (us : List (Nat × Value)) (i : Nat) : List (Nat × Value) := us.filter fun p => ((Region.before ops).getD i 0).testBit p.1
def putU (ops : Array Oper) : List (Nat × Value) → Act → Act
  | [], a => a
  | (u, v) :: r, a => (putU ops r a).put (dst ops u) v
theorem putU_sh {ops : Array Oper} {n : Nat} {a : Act} (h : Sh n a) : ∀ us, Sh n (putU ops us a)
  | [] => h
  | (u, v) :: r => (putU_sh h r).put _ _
section
variable {P : Program} {ops : Array Oper} {Q : Exit → Act → World → Prop} {n : Nat} {I : World → Prop} {Es E : Env} {us : List (Nat × Value)}
/-- The given values are computed, whenever those ahead are there. -/
def Gives (P : Program) (ops : Array Oper) (Q : Exit → Act → World → Prop) (n : Nat) (I : World → Prop) (us : List (Nat × Value)) (Es : Env) : List (Nat × Value) → Prop
  | [] => True
  | (u, v) :: r => (barB ops u = false ∧ ∀ d, dst ops u = some d → Plan P ops (Qd Q (fun a _ => a.slot d = v)) n I true 1 u (factsU ops (aheadU ops us u) ++ Es)) ∧ Gives P ops Q n I us Es r
theorem Gives.mem {r : List (Nat × Value)} (h : Gives P ops Q n I us Es r) {u : Nat} {v : Value} (hm : (u, v) ∈ r) : barB ops u = false ∧ ∀ d, dst ops u = some d → Plan P ops (Qd Q (fun a _ => a.slot d = v)) n I true 1 u (factsU ops (aheadU ops us u) ++ Es) := by
  induction r with
  | nil => cases hm
  | cons p r ih =>
    obtain ⟨u', v'⟩ := p
    rcases List.mem_cons.1 hm with he | hm
    · cases he; exact h.1
    · exact ih h.2 hm
theorem look_factsU {t : Nat} {f : Fa} : ∀ {l : List (Nat × Value)}, look (factsU ops l ++ E) t = some f → (∃ u v, (u, v) ∈ l ∧ dst ops u = some t ∧ f = .ex v) ∨ look E t = some f
  | [], h => .inr h
  | (u, v) :: r, h => by
    simp only [factsU] at h
    cases hd : dst ops u with
    | none =>
      rw [hd] at h
      exact (look_factsU h).imp (fun ⟨u', v', hm, h1⟩ => ⟨u', v', List.mem_cons_of_mem _ hm, h1⟩) id
    | some d =>
      rw [hd] at h
      simp only [List.cons_append, look] at h
      by_cases hdt : d = t
      · rw [if_pos hdt] at h
        cases h
        exact .inl ⟨u, v, List.mem_cons_self, by rw [hd, hdt], rfl⟩
      · rw [if_neg hdt] at h
        exact (look_factsU h).imp (fun ⟨u', v', hm, h1⟩ => ⟨u', v', List.mem_cons_of_mem _ hm, h1⟩) id
theorem look_factsIn {t u : Nat} {v : Value} {f : Fa} : ∀ {l : List (Nat × Value)}, (u, v) ∈ l → dst ops u = some t → look (factsU ops l ++ E) t = some f → ∃ u v, (u, v) ∈ l ∧ dst ops u = some t ∧ f = .ex v
  | (u2, v2) :: r, hm, hd, h => by
    simp only [factsU] at h
    cases hd2 : dst ops u2 with
    | none =>
      rw [hd2] at h
      rcases List.mem_cons.1 hm with he | hm
      · cases he; rw [hd] at hd2; cases hd2
      · obtain ⟨u', v', h1, h2⟩ := look_factsIn hm hd h
        exact ⟨u', v', List.mem_cons_of_mem _ h1, h2⟩
    | some d2 =>
      rw [hd2] at h
      simp only [List.cons_append, look] at h
      by_cases hdt : d2 = t
      · rw [if_pos hdt] at h
        cases h
        exact ⟨u2, v2, List.mem_cons_self, by rw [hd2, hdt], rfl⟩
      · rw [if_neg hdt] at h
        rcases List.mem_cons.1 hm with he | hm
        · cases he; rw [hd] at hd2; cases hd2; exact absurd rfl hdt
        · obtain ⟨u', v', h1, h2⟩ := look_factsIn hm hd h
          exact ⟨u', v', List.mem_cons_of_mem _ h1, h2⟩
/-- No number is named twice. -/
def onceB : List (Nat × Value) → Bool
  | [] => true
  | (u, _) :: r => r.all (fun p => p.1 != u) && onceB r
theorem lookV_of {l : List (Nat × Value)} (h : onceB l = true) {u : Nat} {v : Value} (hm : (u, v) ∈ l) : lookV l u = some v := by
  induction l with
  | nil => cases hm
  | cons p r ih =>
    obtain ⟨u', v'⟩ := p
    simp only [onceB, Bool.and_eq_true, List.all_eq_true] at h
    simp only [lookV]
    rcases List.mem_cons.1 hm with he | hm
    · cases he; rw [if_pos rfl]
    · have := h.1 _ hm
      rw [if_neg (fun e => by rw [e] at this; simp at this)]
      exact ih h.2 hm
theorem gv_of (hB : looseB us ops n = true) (h1 : onceB us = true) {u : Nat} {v : Value} (hm : (u, v) ∈ us) : ∃ d, dst ops u = some d ∧ gv (subst us ops) u = some (d, v) := by
  have hB' := hB
  simp only [looseB, Bool.and_eq_true, List.all_eq_true] at hB'
  have h3 := hB'.2 (u, v) hm
  cases hd : dst ops u with
  | none => simp [hd] at h3
  | some d =>
    refine ⟨d, rfl, ?_⟩
    cases ho : ops[u]? with
    | none => simp [dst, ho] at hd
    | some o =>
      have hod : o.dst = some d := by simpa [dst, ho] using hd
      unfold gv
      rw [subst_get, ho]
      simp [substO, lookV_of h1 hm, given, hod]
theorem putU_slot (R : Rel ops (subst us ops) n) (hB : looseB us ops n = true) (h1 : onceB us = true) {a : Act} (hsh : Sh n a) : ∀ {l : List (Nat × Value)}, (∀ p ∈ l, p ∈ us) → ∀ t, (∀ u v, (u, v) ∈ l → dst ops u ≠ some t) → (putU ops l a).slot t = a.slot t
  | [], _, _, _ => rfl
  | (u, v) :: r, hl, t, ht => by
    have h2 := putU_slot R hB h1 hsh (fun p hp => hl p (List.mem_cons_of_mem _ hp)) t (fun u v hm => ht u v (List.mem_cons_of_mem _ hm))
    simp only [putU]
    cases hd : dst ops u with
    | none => exact h2
    | some d => rw [slot_put_ne _ (fun e => ht u v List.mem_cons_self (by rw [hd, e]))]; exact h2
theorem putU_val (R : Rel ops (subst us ops) n) (hB : looseB us ops n = true) (h1 : onceB us = true) {a : Act} (hsh : Sh n a) : ∀ {l : List (Nat × Value)}, (∀ p ∈ l, p ∈ us) → ∀ u v d, (u, v) ∈ l → dst ops u = some d → (putU ops l a).slot d = v
  | (u', v') :: r, hl, u, v, d, hm, hd => by
    simp only [putU]
    obtain ⟨d', hd', hg'⟩ := gv_of hB h1 (hl _ (List.mem_cons_self (a := (u', v'))))
    rw [hd']
    by_cases hdd : d' = d
    · subst hdd
      rw [slot_put_same (putU_sh hsh r) (R.free.lt _ _ _ hg')]
      obtain ⟨d2, hd2, hg2⟩ := gv_of hB h1 (hl _ hm)
      rw [hd] at hd2; cases hd2
      by_cases huu : u = u'
      · subst huu; rw [hg'] at hg2; cases hg2; rfl
      · exact absurd (by rw [subst_dst]; exact hd) (R.free.one u' d' v' hg' u huu)
    · rw [slot_put_ne _ hdd]
      rcases List.mem_cons.1 hm with he | hm
      · cases he; rw [hd] at hd'; cases hd'; exact absurd rfl hdd
      · exact putU_val R hB h1 hsh (fun p hp => hl p (List.mem_cons_of_mem _ hp)) u v d hm hd
/-- Facts that no operation of the region, and no turn of memory, touches. -/
def stillB (ops : Array Oper) : Env → Bool
  | [] => true
  | (t, f) :: r => keeps f && ((List.range ops.size).all fun j => dst ops j != some t) && stillB ops r
theorem still_of : ∀ {Es : Env}, stillB ops Es = true → ∀ t f, look Es t = some f → (∀ w w' v, f.den w v → f.den w' v) ∧ ∀ j, dst ops j ≠ some t
  | [], _, t, f, h => by simp [look] at h
  | (s, g) :: r, hB, t, f, h => by
    simp only [stillB, Bool.and_eq_true, List.all_eq_true, List.mem_range] at hB
    simp only [look] at h
    by_cases hst : s = t
    · rw [if_pos hst] at h
      cases h
      subst hst
      refine ⟨fun w w' v hd => keeps_den hB.1.1 hd, fun j hj => ?_⟩
      have hlt : j < ops.size := by
        rcases Nat.lt_or_ge j ops.size with h' | h'
        · exact h'
        · simp [dst, Array.getElem?_eq_none h'] at hj
      have := hB.1.2 j hlt
      rw [bne_iff_ne] at this
      exact this hj
    · rw [if_neg hst] at h
      exact still_of hB.2 t f h
/-- **A drawn region, some of whose operations' values are given.** -/
theorem J.loose {id : Nat} (us : List (Nat × Value)) (Es : Env) (hm : P.follows .mixedOrders = true) (hI : ∀ w w', I w → Below w.heap.size w w' → I w') (ht : tidy ops n = true) (ht2 : tidy (subst us ops) n = true) (hB : looseB us ops n = true) (h1 : onceB us = true) (hst : stillB ops Es = true)
    (hL : ¬ LetsOut Q) (hQ : ∀ c a b w, Q (.panic c) a w → Q (.panic c) b w) (hE : Weak I E Es) (hG : Gives P ops Q n I us Es us)
    (h : Plan P (subst us ops) Q n I true (subst us ops).size 0 (factsU ops us ++ E)) : J P n I (.region id ops true) Q E := fun a w hw ha hs => by
  have R := subst_rel hB ht ht2
  refine wp_region_any hm ?_
  have hb0 : Below w.heap.size w { w with drawn := w.drawn + 1 } := (Below.refl _ _).drew
  have hw0 := hI _ _ hw hb0
  have hs0 : Sat E a { w with drawn := w.drawn + 1 } := fun t f hf => Fa.mono f w _ _ hb0 (hs t f hf)
  have hsame : ∀ p ∈ us, p ∈ us := fun _ h => h
  refine loose_run (Es := Es) R (fun _ => hL) (fun _ => hQ) hI (still_of hst) ?_ ops.size _ a _ (putU ops us a) (List.range' 0 ops.size) (factsU ops us ++ E)
    ⟨by simp, start_closed, hw0, ha, putU_sh ha us, planL_of _ _ _ (by rw [← R.size]; exact h), ?_, List.pairwise_lt_range', fun i hi => by simp [List.mem_range'] at hi; omega, fun i hi _ => ?_, ?_, ?_, fun u d v _ hl => absurd hl (by rw [start_facts]; simp), fun _ => hE.sat hw0 hs0, ?_⟩ start_count
  · intro u d v hg b w2 hw2 hb2 hEs hah
    obtain ⟨hl, hd⟩ := gv_subst hB hg
    obtain ⟨hbar, hpl⟩ := hG.mem (lookV_mem hl)
    have hsat : Sat (factsU ops (aheadU ops us u) ++ Es) b w2 := fun t f hf => by
      rcases look_factsU hf with ⟨u', v', hm', hd', rfl⟩ | hf'
      · simp only [aheadU, List.mem_filter] at hm'
        obtain ⟨d2, hd2, hg2⟩ := gv_of hB h1 hm'.1
        rw [hd'] at hd2; cases hd2
        simp only [Fa.den]
        exact hah u' t v' hg2 hm'.2
      · exact hEs t f hf'
    rcases hpl d hd with ⟨F, hstp, hfin⟩ | ⟨hb, _⟩
    · refine wpOp_Qd (wpOp_mono ?_ (hstp b w2 hw2 hb2 fun t _ f hf => hsat t f hf))
      rintro a' w' ⟨v', rfl, hbel, hF⟩
      have hv := hfin _ w' (hI _ _ hw2 hbel) (hb2.put _ _) (hsat.step ht hb2 hbel hF)
      simp only [Qd] at hv
      rw [hd, slot_put_same hb2 (tidy_dst ht hd)] at hv
      rw [hd, hv]
      exact ⟨rfl, hbel⟩
    · have := hb.resolve_left (by simp)
      rw [hbar] at this; cases this
  · intro t f hf
    by_cases hu : ∃ u v, (u, v) ∈ us ∧ dst ops u = some t
    · obtain ⟨u, v, hm', hd⟩ := hu
      obtain ⟨u', v', hm2, hd', rfl⟩ := look_factsIn hm' hd hf
      simp only [Fa.den]
      exact putU_val R hB h1 ha hsame u' v' t hm2 hd'
    · rcases look_factsU hf with ⟨u', v', hm2, hd', rfl⟩ | hf'
      · exact absurd ⟨u', v', hm2, hd'⟩ hu
      · rw [putU_slot R hB h1 ha hsame t (fun u v hm' hd => hu ⟨u, v, hm', hd⟩)]
        exact hs0 t f hf'
  · rw [start_facts]
    simp [List.mem_range']; exact hi
  · intro t htt
    exact (putU_slot R hB h1 ha hsame t (fun u v hm' hd => by
      obtain ⟨d, hd2, hg⟩ := gv_of hB h1 hm'
      rw [hd] at hd2; cases hd2
      exact htt u _ v hg rfl)).symm
  · intro u d v hg
    obtain ⟨hl, hd⟩ := gv_subst hB hg
    exact putU_val R hB h1 ha hsame u v d (lookV_mem hl) hd
  · intro hno
    cases hus : us with
    | nil => rfl
    | cons p r =>
      exfalso
      obtain ⟨u, v⟩ := p
      obtain ⟨d, _, hg⟩ := gv_of hB h1 (by rw [hus]; exact List.mem_cons_self : (u, v) ∈ us)
      have := free_of hg
      rw [hno u] at this; cases this
end
end Go.Free
