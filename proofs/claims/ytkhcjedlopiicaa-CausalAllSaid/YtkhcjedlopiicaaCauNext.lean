/-
  Events that come too early: Get, next, Len.
-/
import Derived.Test.YtkhcjedlopiicaaCauFns
set_option linter.unusedSimpArgs false
set_option linter.unusedVariables false
set_option maxRecDepth 20000
namespace Go.Free
open Go.RowKit
/-- A function that reads a chunk, and turns memory of its own. -/
theorem SpcR.introOld {P : Program} {f : FuncId} {fn : Func} {body : Code} {As : List Fa} {c : Chunk} {R : Nat → Fa} (hf : P.funcs[f]? = some fn) (hb : fn.body = some body) (hsz : As.length ≤ fn.ntmps)
    (h : ∀ w0, J P fn.ntmps (fun w => Below w0.heap.size w0 w) body (FnPost P fn R w0) ((999, .old w0 (heap (fun _ => True) [c])) :: envArgs w0 As 0)) : SpcR P f As c R := by
  intro w args F hd hc
  have hlen : args.length = As.length := dens_len w As args hd
  refine calls_of_wp hf hb ?_
  refine wp_mono (h w _ w (Below.refl _ _) ⟨by simp [hlen]; omega, rfl⟩ ?_) ?_
  · intro t f' hf'
    simp only [look] at hf'
    by_cases ht : 999 = t
    · rw [if_pos ht] at hf'
      cases hf'
      simp only [Fa.den]
      exact ⟨_, Lies.one hc, fun q b hb => trivial⟩
    · rw [if_neg ht] at hf'
      exact envArgs_sat (vs := args) hd (fun j v hj => frame_args j v hj) t f' hf'
  · rintro e a w' hq
    cases e <;> simp only [FnPost] at hq <;> first | exact hq.elim | skip
    all_goals
      obtain ⟨h1, v, h2, h3, h4⟩ := hq
      exact ⟨h1, v, h2, v, rfl, h3, h4⟩
theorem J.heapAgain {P : Program} {n : Nat} {I : World → Prop} {c : Code} {Q : Exit → Act → World → Prop} {E : Env} {w0 : World} {A : Nat → Prop} {H : List Chunk} (key : Nat) (hI : ∀ w, I w → Below w0.heap.size w0 w) (hk : look E 999 = some (.old w0 (heap A H))) (h : J P n I c Q ((key, heap A H) :: E)) : J P n I c Q E := fun a w h1 h2 h3 => by
  have h4 := h3 999 _ hk
  simp only [Fa.den] at h4
  obtain ⟨φ, hL, hA⟩ := Fa.mono (heap A H) w0 w (a.slot 999) (hI w h1) h4
  exact h a w h1 h2 (heap_put h3 hL hA)
end Go.Free
namespace Go.Proofs.Ytkhcjedlopiicaa
open Go.Free Go.RowKit Go.Proofs
set_option maxHeartbeats 8000000

theorem flat_atE {α : Type} {enc : Dt × α → List Value} {sz : Nat} (h : ∀ x, (enc x).length = sz) (L : List (Dt × α)) {i : Nat} (hi : i < L.length) (R : List Value) : (L.flatMap enc ++ R).drop (i * sz) = enc L[i] ++ ((L.drop (i + 1)).flatMap enc ++ R) := by
  rw [flat_split L i, List.append_assoc, List.drop_left' (by rw [flat_len h, List.length_take, Nat.min_eq_left (by omega)]), ← List.getElem_cons_drop (h := hi), List.flatMap_cons, List.append_assoc]
theorem find_at {α : Type} {p : α → Bool} {l : List α} {i : Nat} {x : α} (h : ∀ (j : Nat) y, l[j]? = some y → j < i → p y = false) (hx : l[i]? = some x) (hp : p x = true) : l.find? p = some x := by
  obtain ⟨hi, hxe⟩ := List.getElem?_eq_some_iff.1 hx
  have e : l = l.take i ++ x :: l.drop (i + 1) := by rw [← hxe, List.getElem_cons_drop, List.take_append_drop]
  rw [e, List.find?_append, List.find?_eq_none.2 (fun y hy => by
    obtain ⟨j, hj, rfl⟩ := List.getElem_of_mem hy
    rw [List.length_take] at hj
    rw [List.getElem_take, h j _ (List.getElem?_eq_getElem (by omega)) (by omega)]; decide), Option.none_or, List.find?_cons_of_pos hp]
theorem encE_one (e : EvV) : ∀ u ∈ e.enc, u.oneCell' = true := by simp [EvV.enc, Value.oneCell', str]
theorem get_fnE (β : Nat) (l : List (Dt × EvV)) (hs : sortedD l) (hl : l.length ≤ 1000000) (d : Dt) :
    SpcR Try.prog 59 [.ex (ptr β), .ex (aggD d.1 d.2)] (bagCE β l) fun _ => .tup [.ex (aggE (valD l d ev0)), .ex (.bool (hereD l d))] := by
  refine SpcR.introOld Try.func59 rfl (Nat.le_of_ble_eq_true rfl) fun w0 => ?_
  have hI := hIb w0
  have hA := Own.below w0
  refine J.heap0 1001 (newB w0) ?_
  repeat (refine J.seq (J.region mixed hI (by kernel_rfl) ?_))
  refine Plan.boxC (key := 1001) rfl rfl rfl (by intro _ e; cases e; decide) rfl rfl hA fun a => ?_
  refine Plan.allocC (key := 1001) (z := .agg ev0.enc.toArray) rfl rfl rfl (by intro _ e; cases e; decide) (by kernel_rfl) rfl hA fun c => ?_
  repeat (refine Plan.assign rfl rfl rfl rfl ?_)
  refine J.heapAgain 1000 (fun _ h => h) rfl ?_
  repeat (first | refine Plan.move rfl rfl rfl rfl ?_ | refine J.seq (J.region mixed hI (by kernel_rfl) ?_))
  refine Plan.loadAggC (key := 1001) (q := 0) (vs := [vi d.1, vi d.2]) rfl rfl rfl rfl rfl rfl (obj_reads rfl) Try.underlying28 rfl (by kernel_rfl) (by decide) ?_
  refine Plan.callR (key := 1000) (B := 0) (q := 0) rfl rfl rfl (place_fnE β l hs hl d) Try.func82 rfl rfl (fun _ _ => Nat.zero_le _) (by repeat (first | exact Opnds.nil | refine Opnds.cons rfl (by exact Sub.refl _) ?_)) rfl rfl (by decide) ?_
  repeat (first | refine Plan.move rfl rfl rfl rfl ?_ | refine Plan.assign rfl rfl rfl rfl ?_ | refine Plan.extract rfl rfl rfl rfl rfl ?_ | refine Plan.un rfl rfl rfl rfl rfl ?_ | refine J.seq (J.seq (J.region mixed hI (by kernel_rfl) ?_)))
  refine J.exC (key := 1000) (q := 0) rfl rfl fun p => ?_
  refine J.sepC (key := 1000) (q := 0) rfl rfl ?_
  obtain ⟨B, cap⟩ := p
  dsimp only
  refine J.cond (b := !hereD l d) rfl (fun hh => ?_) (fun hh => ?_)
  · have hh' : hereD l d = false := by simpa using hh
    have hv : valD l d ev0 = ev0 := val_not hh'
    rw [hv, hh']
    repeat (refine J.seq (J.region mixed hI (by kernel_rfl) ?_))
    refine Plan.allocC (key := 1001) (z := .agg ev0.enc.toArray) rfl rfl rfl (by intro _ e; cases e; decide) (by kernel_rfl) rfl hA fun c2 => ?_
    repeat (refine J.seq (J.region mixed hI (by kernel_rfl) ?_))
    refine Plan.loadAggC (key := 1001) (q := 2) (vs := ev0.enc) rfl rfl rfl rfl rfl rfl (obj_reads rfl) Try.underlying86 rfl (by rw [encE]; kernel_rfl) (by decide) ?_
    refine Plan.storeC (key := 1001) (q := 1) (off := 0) rfl rfl rfl rfl rfl rfl (fun u hu => encE_one ev0 u hu) (by show _ = some ev0.enc.toArray.size; kernel_rfl) rfl hA rfl (obj_pat (Nat.le_of_ble_eq_true rfl)) ?_
    repeat (refine Plan.assign rfl rfl rfl rfl ?_)
    exact J.ret (Nrm.retCT (key := 1001) (q := 1) rfl (fun _ h => h) rfl rfl rfl obj_whole Try.underlying86 rfl (by kernel_rfl) fun B _ => ⟨_, _, rfl, rfl, Sub.refl _⟩)
  · have hh' : hereD l d = true := by simpa using hh
    obtain ⟨y, hy, hyd⟩ := here_at hh'
    have hlt : posD l d < l.length := (List.getElem?_eq_some_iff.1 hy).1
    have hv : valD l d ev0 = y.2 := by unfold valD; rw [hh', hy]; rfl
    have hgd : l.getD (posD l d) it0E = y := by rw [List.getD_eq_getElem?_getD, hy]; rfl
    rw [hv, hh']
    repeat (first | refine Plan.move rfl rfl rfl rfl ?_ | refine J.seq (J.region mixed hI (by kernel_rfl) ?_) | refine J.skip ?_)
    refine Plan.nilOk rfl rfl rfl rfl ?_
    refine Plan.fieldC rfl rfl rfl rfl (by exact Try.underlying78) rfl (by kernel_rfl) (by exact (rfl : _ = 0)) ?_
    refine Plan.loadRowC (key := 1000) (q := 0) (q2 := 1) rfl rfl rfl rfl rfl rfl (obj_reads1 rfl) rfl Try.underlying76 (by rfl) (by decide) ?_
    repeat (refine Plan.move rfl rfl rfl rfl ?_)
    refine Plan.indexAddr itE 28 l it0E rfl rfl rfl rfl (Sub.refl _) rfl eltItE itLE (by omega) (by omega) ?_
    rw [Int.toNat_natCast, hgd]
    refine Plan.fieldPtr (us := y.2.enc) rfl rfl rfl rfl (Sub.refl _) Try.underlying134 rfl (by kernel_rfl) (by show (EvV.enc y.2).take (EvV.enc y.2).length = _; rw [List.take_length]) ?_
    refine Plan.loadAggP rfl rfl rfl rfl (Sub.refl _) Try.underlying86 rfl (by rw [encE]; kernel_rfl) ?_
    refine Plan.storeC (key := 1001) (q := 1) (off := 0) rfl rfl rfl rfl rfl rfl (fun u hu => encE_one y.2 u hu) (by show _ = some y.2.enc.toArray.size; kernel_rfl) rfl hA rfl (obj_pat (Nat.le_of_ble_eq_true rfl)) ?_
    repeat (refine Plan.assign rfl rfl rfl rfl ?_)
    exact J.ret (Nrm.retCT (key := 1001) (q := 1) rfl (fun _ h => h) rfl rfl rfl obj_whole Try.underlying86 rfl (by kernel_rfl) fun B _ => ⟨_, _, rfl, rfl, Sub.refl _⟩)
/-! ### next -/
theorem whNilE : WhOkE .nilFunc (fun _ => true) := .inl ⟨rfl, rfl⟩
abbrev dotE (e : EvV) : Dt := (e.r, e.n)
/-- What a buffer has: events under their dots, each of which can be. -/
def heldB (B : List (Dt × EvV)) : Prop := sortedD B ∧ ∀ x ∈ B, x.1 = dotE x.2 ∧ x.2.okV ∧ rightP x.2
def leftE (v : Nat → Int) (B : List (Dt × EvV)) : List (Dt × EvV) := keepE v (fun _ => true) B
def nextE (v : Nat → Int) (B : List (Dt × EvV)) : Option (Dt × EvV) := (leftE v B).find? fun x => mayB x.2 v
def restE (v : Nat → Int) (B : List (Dt × EvV)) : List (Dt × EvV) := match nextE v B with | some x => remD (leftE v B) x.1 | none => leftE v B
theorem held_left {v : Nat → Int} {B : List (Dt × EvV)} (h : heldB B) : heldB (leftE v B) := ⟨h.1.filter _, fun x hx => h.2 x (List.mem_filter.1 hx).1⟩
theorem held_rest {v : Nat → Int} {B : List (Dt × EvV)} (h : heldB B) : heldB (restE v B) := by
  unfold restE
  split
  · exact ⟨sorted_rem (held_left h).1 _, fun x hx => (held_left h).2 x ((mem_rem (held_left h).1 _ x.1 x.2).1 hx).2⟩
  · exact held_left h
def nxE (w0 : World) (F : Nat → Prop) (β a c : Nat) (v : Nat → Int) (K : List (Dt × EvV)) (B1 : Option Addr) (c1 : Nat) (i : Nat) : Env :=
  [(0, .ex (ptr β)), (3, .ex (ptr a)), (4, .ex (ptr c)), (16, .ex (.slice B1 K.length c1)), (17, .ex (vi K.length)), (18, .ex (vi i)),
   (1000, heap (fun b => F b ∨ w0.heap.size ≤ b) [bagCE β K, obj a (vList v), obj c ev0.enc, rowIE B1 K.length c1 (K.flatMap itE)])]
theorem next_fn (β : Nat) (B : List (Dt × EvV)) (hB : heldB B) (hl : B.length ≤ 1000000) (v : Nat → Int) (hv : okV v) :
    SpcC Try.prog 63 [.ex (ptr β), .ex (aggV v)] (bagCE β B) (fun _ : Unit => True) (fun _ => .tup [.ex (aggE (((nextE v B).map (·.2)).getD ev0)), .ex (.bool (nextE v B).isSome)]) (fun _ => bagCE β (restE v B)) := by
  have hLl : (leftE v B).length ≤ B.length := List.length_filter_le _ _
  have hH := held_left (v := v) hB
  refine SpcC.intro Try.func63 rfl (Nat.le_of_ble_eq_true rfl) fun w0 F => ?_
  have hI := kept_below F w0
  have hA := Own.kept F w0
  repeat (refine J.seq (J.region mixed hI (by kernel_rfl) ?_))
  refine Plan.boxC (key := 1000) rfl rfl rfl (by intro _ e; cases e; decide) rfl rfl hA fun a => ?_
  refine Plan.allocC (key := 1000) (z := .agg ev0.enc.toArray) rfl rfl rfl (by intro _ e; cases e; decide) (by kernel_rfl) rfl hA fun c => ?_
  repeat (first | refine Plan.move rfl rfl rfl rfl ?_ | refine Plan.assign rfl rfl rfl rfl ?_ | refine Plan.nilOk rfl rfl rfl rfl ?_ | refine Plan.fieldC rfl rfl rfl rfl (by first | exact Try.underlying86 | exact Try.underlying80) rfl (by kernel_rfl) (by exact (rfl : _ = 0)) ?_ | refine J.seq (J.region mixed hI (by kernel_rfl) ?_))
  refine Plan.loadAggC (key := 1000) (q := 1) (vs := vList v) rfl rfl rfl rfl rfl rfl (obj_reads rfl) Try.underlying42 rfl (by kernel_rfl) (by decide) ?_
  refine Plan.callC (key := 1000) (q := 0) rfl rfl rfl (drop_fnE β B hl v .nilFunc _ whNilE) Try.func86 rfl rfl (by intro _ e; cases e; decide) (by repeat (first | exact Opnds.nil | refine Opnds.cons rfl (by exact Sub.refl _) ?_)) rfl hA rfl ?_
  intro _ _
  obtain ⟨K, hK⟩ : ∃ K, K = leftE v B := ⟨_, rfl⟩
  have hK' : keepE v (fun _ => true) B = K := hK.symm
  have hnx : nextE v B = K.find? fun x => mayB x.2 v := by unfold nextE; rw [← hK]
  have hrs : restE v B = match nextE v B with | some x => remD K x.1 | none => K := by unfold restE; rw [← hK]
  rw [hK', hrs, hnx]
  rw [← hK] at hLl hH
  repeat (first | refine Plan.move rfl rfl rfl rfl ?_ | refine Plan.nilOk rfl rfl rfl rfl ?_ | refine Plan.fieldC rfl rfl rfl rfl (by first | exact Try.underlying86 | exact Try.underlying80) rfl (by kernel_rfl) (by exact (rfl : _ = 0)) ?_ | refine J.seq (J.seq (J.region mixed hI (by kernel_rfl) ?_)))
  refine Plan.callRO (key := 1000) rfl rfl rfl (items_fnE β K (by omega)) (fun _ => rfl) Try.func87 rfl rfl (by intro _ e; cases e; decide) (by repeat (first | exact Opnds.nil | refine Opnds.cons rfl (by exact Sub.refl _) ?_)) rfl hA Ent.left fun B1 m1 c1 hm1 => ?_
  obtain rfl : m1 = K.length := by rw [flat_len itLE] at hm1; omega
  refine Plan.lenE rfl rfl rfl rfl Try.underlying76 ?_
  repeat (refine Plan.move rfl rfl rfl rfl ?_)
  refine J.block (J.loop (nxE w0 F β a c v K B1 c1) (fun i => i ≤ K.length ∧ ∀ (j : Nat) y, K[j]? = some y → j < i → mayB y.2 v = false) (fun i => K.length - i) 0 ⟨Nat.zero_le _, fun j y _ h => by omega⟩ ?_ ?_)
  · repeat (first | exact Weak.nil | refine Weak.cons rfl (Sub.refl _) ?_)
  rintro i ⟨hi, hno⟩
  repeat (first | (refine Plan.ints rfl rfl rfl rfl rfl rfl ?_; (skip)) | refine J.seq (J.region mixed hI (by kernel_rfl) ?_))
  refine J.seq (J.condD rfl (fun hc => ?_) (fun hc => ?_))
  · have hlt : i < K.length := by omega
    have hxi : K[i]? = some K[i] := List.getElem?_eq_getElem hlt
    obtain ⟨hd, hok, hrp⟩ := hH.2 _ (List.getElem_mem hlt)
    have hdr : 0 ≤ K[i].2.r ∧ K[i].2.r < 16 := ⟨hrp.1.1, hrp.1.2.1⟩
    refine J.factC (key := 1000) (q := 3) rfl rfl (fun w F h => row_room h) fun hrm => ?_
    obtain ⟨g, rfl⟩ : ∃ g, B1 = some ⟨g, 0, none⟩ := by
      cases B1 with
      | none => have := (hrm.2.2.2.1 rfl).1; omega
      | some ad => exact ⟨ad.block, by rw [← hrm.2.2.2.2 ad rfl]⟩
    have hat : (K.flatMap itE).drop (i * 28) = itE K[i] ++ (K.drop (i + 1)).flatMap itE := by have := flat_atE itLE K hlt []; rwa [List.append_nil, List.append_nil] at this
    have hra : ((K.flatMap itE).drop (i * 28)).take (itE K[i]).length = itE K[i] := by rw [hat, List.take_left]
    repeat (refine J.skip ?_)
    refine J.seq (J.block ?_)
    repeat (refine J.seq (J.region mixed hI (by kernel_rfl) ?_))
    refine Plan.indexC (off := i * 28) rfl rfl rfl rfl rfl eltItE hlt (by omega) ?_
    refine Plan.loadAggC (key := 1000) (q := 3) (off := i * 28) (vs := itE K[i]) rfl rfl rfl rfl rfl rfl (row_reads hra) Try.underlying134 rfl (by rw [itLE]; kernel_rfl) (by decide) ?_
    refine Plan.allocC (key := 1000) (z := .agg (itE it0E).toArray) rfl rfl rfl (by intro _ e; cases e; decide) (by kernel_rfl) rfl hA fun γ => ?_
    refine Plan.storeC (key := 1000) (q := 4) (off := 0) rfl rfl rfl rfl rfl rfl (fun u hu => itOneE K[i] u hu) (by kernel_rfl) rfl hA rfl (obj_pat (show 0 + (itE K[i]).length ≤ (itE it0E).length by rw [itLE, itLE]; omega)) ?_
    have hobj : (itE it0E).take 0 ++ itE K[i] ++ (itE it0E).drop (0 + (itE K[i]).length) = itE K[i] := by
      rw [List.take_zero, List.nil_append, List.drop_of_length_le (by rw [itLE, itLE]; omega), List.append_nil]
    refine J.regroup (key := 1000) [bagCE β K, obj a (vList v), obj c ev0.enc, rowIE (some ⟨g, 0, none⟩) K.length c1 (K.flatMap itE), obj γ (itE K[i])] rfl (Ent.sep (Ent.refl _) (Ent.sep (Ent.refl _) (Ent.sep (Ent.refl _) (Ent.sep (Ent.refl _) (Ent.sep (Ent.of_eq (congrArg (obj γ) hobj)) (Ent.refl _)))))) ?_
    repeat (first | refine Plan.fieldC rfl rfl rfl rfl (by first | exact Try.underlying86 | exact Try.underlying134) rfl (by kernel_rfl) (by exact (rfl : _ = 2)) ?_ | refine J.seq (J.region mixed hI (by kernel_rfl) ?_))
    refine Plan.loadAggC (key := 1000) (q := 4) (off := 2) (vs := K[i].2.enc) rfl rfl rfl rfl rfl rfl (obj_reads (by show (EvV.enc K[i].2).take (EvV.enc K[i].2).length = _; rw [List.take_length])) Try.underlying86 rfl (by rw [encE]; kernel_rfl) (by decide) ?_
    refine Plan.loadAggC (key := 1000) (q := 1) (vs := vList v) rfl rfl rfl rfl rfl rfl (obj_reads rfl) Try.underlying42 rfl (by kernel_rfl) (by decide) ?_
    refine Plan.call (B := 0) rfl rfl rfl (may_fn K[i].2 v hok hv hdr) Try.func88 rfl rfl (fun _ _ => Nat.zero_le _) (by repeat (first | exact Opnds.nil | refine Opnds.cons rfl (by exact Sub.refl _) ?_)) ?_
    repeat (fail)
    refine J.cond rfl (fun hm => ?_) (fun hm => ?_)
    · have hf : K.find? (fun x => mayB x.2 v) = some K[i] := find_at hno hxi hm
      rw [hf]
      repeat (first | refine Plan.move rfl rfl rfl rfl ?_ | refine Plan.nilOk rfl rfl rfl rfl ?_ | refine Plan.fieldC rfl rfl rfl rfl (by first | exact Try.underlying86 | exact Try.underlying134 | exact Try.underlying80) rfl (by kernel_rfl) (by exact (rfl : _ = 0)) ?_ | refine J.seq (J.region mixed hI (by kernel_rfl) ?_))
      refine Plan.loadAggC (key := 1000) (q := 4) (off := 0) (vs := [vi K[i].1.1, vi K[i].1.2]) rfl rfl rfl rfl rfl rfl (obj_reads rfl) Try.underlying28 rfl (by kernel_rfl) (by decide) ?_
      refine Plan.callC (key := 1000) (q := 0) rfl rfl rfl (remove_fnE β K hH.1 (by omega) K[i].1) Try.func89 rfl rfl (by intro _ e; cases e; decide) (by repeat (first | exact Opnds.nil | refine Opnds.cons rfl (by exact Sub.refl _) ?_)) rfl hA rfl ?_
      intro _ _
      repeat (first | refine Plan.fieldC rfl rfl rfl rfl (by first | exact Try.underlying86 | exact Try.underlying134) rfl (by kernel_rfl) (by exact (rfl : _ = 2)) ?_ | refine J.seq (J.region mixed hI (by kernel_rfl) ?_))
      refine Plan.loadAggC (key := 1000) (q := 4) (off := 2) (vs := K[i].2.enc) rfl rfl rfl rfl rfl rfl (obj_reads (by show (EvV.enc K[i].2).take (EvV.enc K[i].2).length = _; rw [List.take_length])) Try.underlying86 rfl (by rw [encE]; kernel_rfl) (by decide) ?_
      refine Plan.storeC (key := 1000) (q := 2) (off := 0) rfl rfl rfl rfl rfl rfl (fun u hu => encE_one K[i].2 u hu) (by show _ = some K[i].2.enc.toArray.size; kernel_rfl) rfl hA rfl (obj_pat (Nat.le_of_ble_eq_true rfl)) ?_
      repeat (refine Plan.assign rfl rfl rfl rfl ?_)
      exact J.ret (Nrm.retCc2 (key := 1000) (q := 2) () rfl rfl rfl rfl rfl obj_whole Try.underlying86 rfl (by kernel_rfl) trivial rfl Ent.left)
    · repeat (first | refine Plan.move rfl rfl rfl rfl ?_ | (refine Plan.ints rfl rfl rfl rfl rfl rfl ?_; (refine Plan.int (i64r (by omega)) ?_)) | refine J.region mixed hI (by kernel_rfl) ?_ | refine J.skip ?_)
      refine Plan.int (y := ((i + 1 : Nat) : Int)) (by omega) ?_
      repeat (fail)
      refine Nrm.next (i + 1) ⟨by omega, fun j y hy hj => ?_⟩ (by omega) ?_
      · rcases Nat.lt_or_ge j i with h5 | h5
        · exact hno j y hy h5
        · have : j = i := by omega
          subst this; rw [hxi] at hy; cases hy; exact hm
      · exact Weak.cons rfl (Sub.refl _) (Weak.cons rfl (Sub.refl _) (Weak.cons rfl (Sub.refl _) (Weak.cons rfl (Sub.refl _) (Weak.cons rfl (Sub.refl _) (Weak.cons rfl (Sub.refl _) (Weak.cons rfl (Sub.heap (Ent.pickC [0, 1, 2, 3] rfl rfl)) Weak.nil))))))
  have hf : K.find? (fun x => mayB x.2 v) = none := List.find?_eq_none.2 fun x hx => by
    obtain ⟨j, hj, rfl⟩ := List.getElem_of_mem hx
    rw [hno j _ (List.getElem?_eq_getElem hj) (by omega)]; decide
  refine J.exit ?_
  rw [hf]
  repeat (refine J.seq (J.region mixed hI (by kernel_rfl) ?_))
  refine Plan.build (cells := ev0.enc.toArray) rfl rfl (ps := []) rfl Parts.nil (by kernel_rfl) ?_
  refine Plan.storeC (key := 1000) (q := 2) (off := 0) rfl rfl rfl rfl rfl rfl (fun u hu => encE_one ev0 u hu) (by show _ = some ev0.enc.toArray.size; kernel_rfl) rfl hA rfl (obj_pat (Nat.le_of_ble_eq_true rfl)) ?_
  repeat (refine Plan.assign rfl rfl rfl rfl ?_)
  exact J.ret (Nrm.retCc2 (key := 1000) (q := 2) () rfl rfl rfl rfl rfl obj_whole Try.underlying86 rfl (by kernel_rfl) trivial rfl Ent.left)
end Go.Proofs.Ytkhcjedlopiicaa
