/-
  Laid together: TopEv, TopApplyP, TopGet, TopHere, TopItems, TopInv, FreeFirst, TopApply, TopVV, AofTakes.
-/
import Derived.Test.YtmljgobenlpnfaaGreatTLPJ
set_option linter.unusedSimpArgs false
set_option linter.unusedVariables false
set_option maxRecDepth 20000

section
namespace Go.Free
open Go.RowKit Go.Proofs.YtmljgobenlpnfaaGreat
section
variable {P : Program} {n : Nat} {I : World → Prop} {E : Env} {Q : Exit → Act → World → Prop} {A : Nat → Prop} {key : Nat}
theorem J.openE {c : Code} {c1 c2 : Chunk} {ks : List SE} {Hr : List Chunk} {j : Nat} {x : SE} (hj : ks[j]? = some x) (hk : look E key = some (heap A (c1 :: c2 :: allC (ks.map entC) :: Hr)))
    (h : ∀ B1 n1 B2 n2, J P n I c Q ((key, heap A (c1 :: c2 :: obj x.η [.slice B1 x.l.length n1, .slice B2 x.dd.length n2] :: rowLv B1 x.l n1 :: rowDd B2 x.dd n2 :: allC ((ks.map entC).eraseIdx j) :: Hr)) :: E)) : J P n I c Q E := by
  have hrow : (ks.map entC)[j]? = some (entC x) := by rw [List.getElem?_map, hj]; rfl
  refine J.regroup (key := key) (c1 :: c2 :: entC x :: allC ((ks.map entC).eraseIdx j) :: Hr) hk (Ent.sep (Ent.refl _) (Ent.sep (Ent.refl _) ((Ent.sep (Ent.takeOut hrow) (Ent.refl _)).trans Ent.assocR))) ?_
  refine J.exC (key := key) (q := 2) (A := A) (H := c1 :: c2 :: entC x :: allC ((ks.map entC).eraseIdx j) :: Hr) (by simp [look]) rfl fun p => ?_
  refine J.regroup (key := key) (c1 :: c2 :: obj x.η [.slice p.1.1 x.l.length p.1.2, .slice p.2.1 x.dd.length p.2.2] :: rowLv p.1.1 x.l p.1.2 :: rowDd p.2.1 x.dd p.2.2   :: allC ((ks.map entC).eraseIdx j) :: Hr) (A := A) (H := (c1 :: c2 :: entC x :: allC ((ks.map entC).eraseIdx j) :: Hr).set 2 (allC [obj x.η [.slice p.1.1 x.l.length p.1.2, .slice p.2.1 x.dd.length p.2.2], rowLv p.1.1 x.l p.1.2, rowDd p.2.1 x.dd p.2.2])) (by simp [look]) (Ent.sep (Ent.refl _) (Ent.sep (Ent.refl _) (Ent.joinC (H1 := [obj x.η [.slice p.1.1 x.l.length p.1.2, .slice p.2.1 x.dd.length p.2.2], rowLv p.1.1 x.l p.1.2, rowDd p.2.1 x.dd p.2.2])))) ?_
  intro a w h1 h2 h3
  refine h p.1.1 p.1.2 p.2.1 p.2.2 a w h1 h2 fun t f hf => ?_
  refine h3 t f ?_
  simp only [look] at hf ⊢
  by_cases ht : key = t
  · rw [if_pos ht] at hf ⊢; exact hf
  · rw [if_neg ht] at hf
    rw [if_neg ht, if_neg ht, if_neg ht]; exact hf
theorem Plan.lookupS {ops : Array Oper} {d : Bool} {k i : Nat} {o : Oper} {H : List Chunk} {t kt et : TypeId} {x y : Operand} {q : Nat} {kk : List UInt8} {mu : Option Nat} {ks : List SE} {z : Value} (hw : mu = none → ks = []) (ho : ops[i]? = some o) (hop : o.op = .lookup t x y false) (hg : wantB ops E o = some true)
    (hx : opF E x = some (.ex (.map mu))) (hy : opF E y = some (.ex (str kk))) (ht : P.underlying t = some (.map kt et)) (hkt : P.underlying kt = some .string) (hz : (P.info? et).bind (·.zero) = some z)
    (hk : look E key = some (heap A H)) (hqH : H[q]? = some (mapS mu ks)) (hkn : n ≤ key)
    (h : Plan P ops Q n I d k (i + 1) (setE o.dst (.ex (mapAtT z (kvS ks) kk)) E)) : Plan P ops Q n I d (k + 1) i E := by
  cases mu with
  | none =>
    rw [hw rfl] at h
    exact Plan.lookupNilT ho hop hg hx hy ht hkt hz h
  | some μ => exact Plan.lookupT ho hop hg hx hy ht hkt hz hk hqH hkn h
end
theorem Ent.closeE {c1 c2 : Chunk} {ks : List SE} {Hr : List Chunk} {j : Nat} (x : SE) {B1 B2 : Option Addr} {n1 n2 : Nat} (hj : j < ks.length) : Ent (allC (c1 :: c2 :: obj x.η [.slice B1 x.l.length n1, .slice B2 x.dd.length n2] :: rowLv B1 x.l n1 :: rowDd B2 x.dd n2 :: allC ((ks.map entC).eraseIdx j) :: Hr)) (allC (c1 :: c2 :: allC ((ks.set j x).map entC) :: Hr)) := by
  refine Ent.sep (Ent.refl _) (Ent.sep (Ent.refl _) ?_)
  have h1 : Ent (allC (obj x.η [.slice B1 x.l.length n1, .slice B2 x.dd.length n2] :: rowLv B1 x.l n1 :: rowDd B2 x.dd n2 :: allC ((ks.map entC).eraseIdx j) :: Hr)) (sepC (allC [obj x.η [.slice B1 x.l.length n1, .slice B2 x.dd.length n2], rowLv B1 x.l n1, rowDd B2 x.dd n2]) (allC (allC ((ks.map entC).eraseIdx j) :: Hr))) := Ent.splitC (H1 := [_, _, _])
  refine h1.trans ?_
  have h2 : Ent (allC [obj x.η [.slice B1 x.l.length n1, .slice B2 x.dd.length n2], rowLv B1 x.l n1, rowDd B2 x.dd n2]) (entC x) := Ent.ex ((B1, n1), (B2, n2)) (Ent.refl _)
  refine (Ent.sep h2 (Ent.refl _)).trans ?_
  refine Ent.assocL.trans (Ent.sep ?_ (Ent.refl _))
  have h3 := Ent.layBack (c := entC x) (L := ks.map entC) (j := j) (by simpa using hj)
  rw [List.map_set]
  exact h3
end Go.Free
namespace Go.Proofs.YtmljgobenlpnfaaGreat
open Go.Free Go.RowKit Go.Proofs Go.Free.Sorts
set_option maxHeartbeats 16000000
def liveAt (ks : List SE) (k : List UInt8) : List (Dt × EvV) := match ks.find? (fun x => decide (x.key = k)) with | some x => x.l | none => []
def deadAt (ks : List SE) (k : List UInt8) : List (Dt × (EvV × Dt)) := match ks.find? (fun x => decide (x.key = k)) with | some x => x.dd | none => []
theorem find_key {ks : List SE} (hn : (ks.map (·.key)).Nodup) {j : Nat} {x : SE} (hj : ks[j]? = some x) : ks.find? (fun y => decide (y.key = x.key)) = some x := by
  obtain ⟨hl, hx⟩ := List.getElem?_eq_some_iff.1 hj
  rw [List.find?_eq_some_iff_getElem]
  refine ⟨by simp, j, hl, hx, fun i hi => ?_⟩
  simp only [Bool.not_eq_true', decide_eq_false_iff_not]
  intro e
  have h2 := List.pairwise_iff_getElem.1 hn i j (by simp; omega) (by simpa using hl) hi
  simp only [List.getElem_map] at h2
  rw [hx] at h2
  exact h2 e
theorem find_nokey {ks : List SE} {k : List UInt8} (h : k ∉ ks.map (·.key)) : ks.find? (fun y => decide (y.key = k)) = none := by
  rw [List.find?_eq_none]
  intro x hx
  simp only [decide_eq_true_eq]
  exact fun e => h (e ▸ List.mem_map.2 ⟨x, hx, rfl⟩)
theorem live_in {ks : List SE} (hn : (ks.map (·.key)).Nodup) {j : Nat} {x : SE} (hj : ks[j]? = some x) : liveAt ks x.key = x.l := by unfold liveAt; rw [find_key hn hj]
theorem dead_in {ks : List SE} (hn : (ks.map (·.key)).Nodup) {j : Nat} {x : SE} (hj : ks[j]? = some x) : deadAt ks x.key = x.dd := by unfold deadAt; rw [find_key hn hj]
theorem live_out {ks : List SE} {k : List UInt8} (h : k ∉ ks.map (·.key)) : liveAt ks k = [] := by unfold liveAt; rw [find_nokey h]
theorem dead_out {ks : List SE} {k : List UInt8} (h : k ∉ ks.map (·.key)) : deadAt ks k = [] := by unfold deadAt; rw [find_nokey h]
theorem has_key {ks : List SE} {k : List UInt8} (h : k ∈ ks.map (·.key)) : ∃ (j : Nat) (x : SE), ks[j]? = some x ∧ x.key = k := by
  obtain ⟨x, hx, hxk⟩ := List.mem_map.1 h
  obtain ⟨j, hj, hjx⟩ := List.getElem_of_mem hx
  exact ⟨j, x, by rw [List.getElem?_eq_getElem hj, hjx], hxk⟩
theorem set_same {ks : List SE} {j : Nat} {x : SE} (hj : ks[j]? = some x) : ks.set j x = ks := by
  obtain ⟨hl, hx⟩ := List.getElem?_eq_some_iff.1 hj
  rw [← hx, List.set_getElem_self]
theorem it_at (l : List (Dt × EvV)) {i : Nat} (hi : i < l.length) : ((l.flatMap itL).drop (i * 28)).take (itL l[i]).length = itL l[i] := by
  have e : l.flatMap itL = (l.take i).flatMap itL ++ (itL l[i] ++ (l.drop (i + 1)).flatMap itL) := by
    have : l.flatMap itL = (l.take i ++ l[i] :: l.drop (i + 1)).flatMap itL := by rw [List.getElem_cons_drop, List.take_append_drop]
    rw [this, List.flatMap_append, List.flatMap_cons]
  rw [e, List.drop_left' (by rw [flat_len itLL, List.length_take, Nat.min_eq_left (by omega)]), List.take_left]
theorem evsB_take {l : List (Dt × EvV)} {i : Nat} (hi : i < l.length) : evsB (l.take (i + 1)) = evsB (l.take i) ++ [l[i].2] := by
  unfold evsB
  rw [List.take_succ_eq_append_getElem hi, List.map_append]; rfl
abbrev evHc (σ : Nat) (S : SpV) (x : SE) (B1 : Option Addr) (n1 : Nat) (B2 : Option Addr) (n2 : Nat) (R : Chunk) (Bi : Option Addr) (ci : Nat) (s : Nat × Option Addr × Nat) : List Chunk :=
  [obj σ (spCells (.map S.mu) S.v S.t), mapS S.mu S.ks, obj x.η [.slice B1 x.l.length n1, .slice B2 x.dd.length n2], rowLv B1 x.l n1, rowDd B2 x.dd n2, R, rowEv s.2.1 s.1 s.2.2 (evsC (evsB (x.l.take s.1))), rowLv Bi x.l ci]
def evA (F : Nat → Prop) (w0 : World) (σ : Nat) (S : SpV) (x : SE) (B1 : Option Addr) (n1 : Nat) (B2 : Option Addr) (n2 : Nat) (R : Chunk) (Bi : Option Addr) (ci : Nat) (s : Nat × Option Addr × Nat) : Env :=
  [(5, .ex (.slice s.2.1 s.1 s.2.2)), (27, .ex (.slice Bi x.l.length ci)), (28, .ex (vi x.l.length)), (29, .ex (vi s.1)), (1000, heap (fun b => F b ∨ w0.heap.size ≤ b) (evHc σ S x B1 n1 B2 n2 R Bi ci s))]
theorem events_fn (σ : Nat) (S : SpV) (hw : SpWf S) (hl : ∀ x ∈ S.ks, x.l.length ≤ 1000000) (key : List UInt8) : SpcC Tryz.prog 40 [.ex (ptr σ), .ex (str key)] (spC σ S) (fun _ : Option Addr × Nat => True)
    (fun x => .ex (.slice x.1 (liveAt S.ks key).length x.2)) (fun x => allC [spC σ S, rowEv x.1 (liveAt S.ks key).length x.2 (evsC (evsB (liveAt S.ks key)))]) := by
  refine SpcC.intro Tryz.func40 rfl (Nat.le_of_ble_eq_true rfl) fun w0 F => ?_
  have hI := kept_below F w0
  have hA := Own.kept F w0
  refine J.open1 (key := 1000) rfl ?_
  refine J.seq (J.region mixed hI (by kernel_rfl) ?_)
  repeat (refine Plan.assign rfl rfl rfl rfl ?_)
  refine J.seq (J.seq (J.region mixed hI (by kernel_rfl) ?_))
  repeat (first | refine Plan.move rfl rfl rfl rfl ?_ | refine Plan.nilOk rfl rfl rfl rfl ?_ | refine Plan.fieldC rfl rfl rfl rfl (by first | exact Tryz.underlying58 | exact Tryz.underlying55) rfl (by kernel_rfl) (by exact (rfl : _ = 0)) ?_ | refine Plan.loadC (key := 1000) (q := 0) rfl rfl rfl rfl rfl rfl (obj_reads1 rfl) (by first | exact Tryz.underlying3 | exact Tryz.underlying53) (by rfl) (by decide) ?_ | refine Plan.eqlPtr rfl rfl rfl rfl (by kernel_rfl) ?_)
  refine Plan.lookupS (key := 1000) (q := 1) (z := .pointer none) (mu := S.mu) (ks := S.ks) hw.none rfl rfl rfl rfl rfl Tryz.underlying53 Tryz.underlying9 (by kernel_rfl) rfl rfl (by decide) ?_
  by_cases hk : key ∈ S.ks.map (·.key)
  case neg =>
    rw [live_out hk, sp_out hk]
    refine Plan.eqlPtr rfl rfl rfl rfl (by kernel_rfl) ?_
    repeat (refine Plan.pick rfl rfl rfl rfl rfl ?_)
    refine J.condT rfl ?_
    refine J.nilRow (key := 1000) 40 26 rfl ?_
    refine J.seq (J.region mixed hI (by kernel_rfl) ?_)
    repeat (refine Plan.assign rfl rfl rfl rfl ?_)
    exact J.ret (Nrm.retC1 (key := 1000) (none, 0) rfl rfl rfl trivial (Sub.refl _) (Ent.trans (Ent.splitC (H1 := [_, _, _])) (Ent.refl _)))
  case pos =>
  obtain ⟨j, x, hj, rfl⟩ := has_key hk
  have hm := sp_in hw.nd hj (.pointer none)
  have hjl := (List.getElem?_eq_some_iff.1 hj).1
  have hxl := hl x (List.mem_of_getElem? hj)
  rw [live_in hw.nd hj, hm]
  refine Plan.eqlPtr rfl rfl rfl rfl (by kernel_rfl) ?_
  repeat (refine Plan.pick rfl rfl rfl rfl rfl ?_)
  refine J.condF rfl ?_
  refine J.skip ?_
  refine J.openE (key := 1000) hj rfl fun B1 n1 B2 n2 => ?_
  obtain ⟨R, hR⟩ : ∃ R, R = allC ((S.ks.map entC).eraseIdx j) := ⟨_, rfl⟩
  rw [← hR]
  refine J.nilRow (key := 1000) 40 26 rfl ?_
  refine J.seq (J.region mixed hI (by kernel_rfl) ?_)
  repeat (refine Plan.assign rfl rfl rfl rfl ?_)
  refine J.seq (J.seq (J.region mixed hI (by kernel_rfl) ?_))
  repeat (first | refine Plan.move rfl rfl rfl rfl ?_ | refine Plan.nilOk rfl rfl rfl rfl ?_ | refine Plan.fieldC rfl rfl rfl rfl (by first | exact Tryz.underlying58 | exact Tryz.underlying55) rfl (by kernel_rfl) (by exact (rfl : _ = 0)) ?_ | refine Plan.loadC (key := 1000) (q := 0) rfl rfl rfl rfl rfl rfl (obj_reads1 rfl) (by first | exact Tryz.underlying3 | exact Tryz.underlying53) (by rfl) (by decide) ?_)
  refine Plan.lookupS (key := 1000) (q := 1) (z := .pointer none) (mu := S.mu) (ks := S.ks) hw.none rfl rfl rfl rfl rfl Tryz.underlying53 Tryz.underlying9 (by kernel_rfl) rfl rfl (by decide) ?_
  rw [hm]
  repeat (first | refine Plan.nilOk rfl rfl rfl rfl ?_ | refine Plan.fieldC rfl rfl rfl rfl (by first | exact Tryz.underlying58 | exact Tryz.underlying77) rfl (by kernel_rfl) (by exact (rfl : _ = 0)) ?_)
  refine Plan.callRO (key := 1000) rfl rfl rfl (items_fnL x.η (.slice B2 x.dd.length n2) x.l hxl) (fun _ => rfl) Tryz.func27 rfl rfl (by intro _ e; cases e; decide) (by repeat (first | exact Opnds.nil | refine Opnds.cons rfl (by exact Sub.refl _) ?_)) rfl hA ((Ent.pickC [2, 3] rfl rfl).trans bag_closeL) fun Bi m ci hmi => ?_
  obtain rfl : m = x.l.length := by rw [flat_len itLL] at hmi; omega
  refine Plan.lenE rfl rfl rfl rfl Tryz.underlying70 ?_
  repeat (refine Plan.move rfl rfl rfl rfl ?_)
  refine J.block (J.loop (evA F w0 σ S x B1 n1 B2 n2 R Bi ci) (fun s => s.1 ≤ x.l.length) (fun s => x.l.length - s.1) (0, none, 0) (Nat.zero_le _) ?_ ?_)
  · repeat (first | exact Weak.nil | refine Weak.cons rfl (Sub.refl _) ?_)
  rintro ⟨i, O, oc⟩ hi
  simp only at hi
  change J _ _ _ _ _ (evA F w0 σ S x B1 n1 B2 n2 R Bi ci (i, O, oc))
  refine J.seq (J.region mixed hI (by kernel_rfl) ?_)
  repeat ((refine Plan.ints rfl rfl rfl rfl rfl rfl ?_; (skip)))
  refine J.seq (J.condD rfl (fun hc => ?_) (fun hc => ?_))
  · have hlt : i < x.l.length := by
      first | omega | (dsimp only at hc; omega)
    have hst := evsB_take hlt
    obtain ⟨y, hy⟩ : ∃ y, y = x.l[i] := ⟨_, rfl⟩
    have hyx := it_at x.l hlt
    rw [← hy] at hst hyx
    have htl : (evsB (x.l.take i)).length = i := by unfold evsB; rw [List.length_map, List.length_take]; omega
    refine J.skip ?_
    refine J.tellC (key := 1000) (q := 7) rfl rfl (row_at (by rw [flat_len itLL]; omega)) ?_
    rintro ⟨g, rfl⟩
    refine J.seq (J.block ?_)
    refine J.seq (J.region mixed hI (by kernel_rfl) ?_)
    repeat (fail)
    refine Plan.indexC (off := i * 28) rfl rfl rfl rfl rfl eltItL hlt (by omega) ?_
    refine Plan.loadAggC (key := 1000) (q := 7) (off := i * 28) (vs := itL y) rfl rfl rfl rfl rfl rfl (row_reads hyx) Tryz.underlying80 rfl (by rw [itLL]; kernel_rfl) (by decide) ?_
    refine Plan.allocC (key := 1000) (z := .agg (itL it0L).toArray) rfl rfl rfl (by intro _ e; cases e; decide) (by kernel_rfl) rfl hA fun ξ => ?_
    refine Plan.storeC (key := 1000) (q := 8) (off := 0) rfl rfl rfl rfl rfl rfl (fun u hu => itOneL y u hu) (by kernel_rfl) rfl hA rfl (obj_pat (show 0 + (itL y).length ≤ (itL it0L).length by rw [itLL, itLL]; omega)) ?_
    repeat (fail)
    refine J.regroup (key := 1000) (evHc σ S x B1 n1 B2 n2 R (some ⟨g, 0, none⟩) ci (i, O, oc) ++ [obj ξ (itL y)]) rfl (Ent.refl _) ?_
    refine J.region mixed hI (by kernel_rfl) ?_
    repeat (first | refine Plan.move rfl rfl rfl rfl ?_ | refine Plan.fieldC rfl rfl rfl rfl (by first | exact Tryz.underlying58 | exact Tryz.underlying80) rfl (by kernel_rfl) (by exact (rfl : _ = 2)) ?_)
    refine Plan.loadAggC (key := 1000) (q := 8) (off := 2) (vs := y.2.enc) rfl rfl rfl rfl rfl rfl (obj_reads rfl) Tryz.underlying40 rfl (by rw [encE]; kernel_rfl) (by decide) ?_
    refine Plan.lit (B := 0) rfl rfl rfl eltE rfl (fun _ _ => Nat.zero_le _) rfl (by simp [Value.cells, EvV.enc]) (by decide) ?_
    refine Plan.appendC (key := 1000) (q := 6) (B := O) (m := i) (cap := oc) (xs := evsC (evsB (x.l.take i))) (news := evsC [y.2]) rfl rfl rfl rfl rfl (Sub.rowEq (by simp [evsC, flat, Value.cells]) Sub.own) eltE (by intro _ e; cases e; decide) rfl hA rfl (evs_one _) (by rw [evs_len, evs_len, htl]; simp; omega) fun B' m' cap' hm' => ?_
    rw [← evs_app, ← hst]
    obtain rfl : m' = i + 1 := by
      rw [evs_len, evs_len, htl] at hm'
      simp only [List.length_cons, List.length_nil] at hm'
      omega
    repeat (refine Plan.assign rfl rfl rfl rfl ?_)
    refine J.region mixed hI (by kernel_rfl) ?_
    repeat (first | refine Plan.move rfl rfl rfl rfl ?_ | (refine Plan.ints rfl rfl rfl rfl rfl rfl ?_; (refine Plan.int (i64r (by omega)) ?_)))
    refine Plan.int (y := ((i + 1 : Nat) : Int)) (by omega) ?_
    repeat (fail)
    exact Nrm.next (i + 1, B', cap') hlt (by dsimp only; omega) (by repeat (first | exact Weak.nil | refine Weak.cons rfl (Sub.refl _) ?_ | refine Weak.cons rfl (Sub.heap (Ent.pickC [0, 1, 2, 3, 4, 5, 6, 7] rfl rfl)) ?_))
  have hie : i = x.l.length := by
    first | omega | (dsimp only at hc; omega)
  subst hie
  refine J.exit ?_
  unfold evA evHc
  dsimp only
  rw [List.take_length]
  refine J.seq (J.region mixed hI (by kernel_rfl) ?_)
  repeat (first | refine Plan.move rfl rfl rfl rfl ?_ | refine Plan.assign rfl rfl rfl rfl ?_)
  refine J.ret (Nrm.retC1 (key := 1000) (O, oc) rfl rfl rfl trivial (Sub.refl _) ?_)
  rw [hR]
  refine (Ent.closeE x hjl).trans ?_
  rw [set_same hj]
  exact (Ent.splitC (H1 := [_, _, _])).trans (Ent.sep (Ent.refl _) (Ent.pickC [0] rfl rfl))
end Go.Proofs.YtmljgobenlpnfaaGreat
end

section
namespace Go.Proofs.YtmljgobenlpnfaaGreat
open Go.Free Go.RowKit Go.Proofs Go.Free.Sorts
set_option maxHeartbeats 4000000
theorem at_mem (ks : List SE) (key : List UInt8) (η : Nat) : key ∈ (atK ks key η).map (·.key) := by
  unfold atK
  split
  · assumption
  · simp
theorem at_nodup {ks : List SE} (h : (ks.map (·.key)).Nodup) (key : List UInt8) (η : Nat) : ((atK ks key η).map (·.key)).Nodup := by
  unfold atK
  split
  · exact h
  · rename_i hk
    rw [List.map_append, List.nodup_append]
    refine ⟨h, by simp, fun a ha b hb => ?_⟩
    simp only [List.map_cons, List.map_nil, List.mem_singleton] at hb
    subst hb
    exact fun e => hk (e ▸ ha)
theorem at_live (ks : List SE) (key : List UInt8) (η : Nat) (k : List UInt8) : liveAt (atK ks key η) k = liveAt ks k ∧ deadAt (atK ks key η) k = deadAt ks k := by
  unfold atK
  split
  · exact ⟨rfl, rfl⟩
  · rename_i hk
    unfold liveAt deadAt
    rw [List.find?_append]
    by_cases he : k = key
    · subst he
      rw [find_nokey hk]
      simp
    · cases hf : ks.find? (fun y => decide (y.key = k)) with
      | some y => simp
      | none =>
        have : ([⟨key, η, [], []⟩] : List SE).find? (fun y => decide (y.key = k)) = none := by
          rw [List.find?_cons_of_neg (by simpa using fun h => he h.symm)]; rfl
        simp only [Option.none_or, this, and_self]
theorem set_keys {ks : List SE} {j : Nat} {x x' : SE} (hj : ks[j]? = some x) (hk : x'.key = x.key) : (ks.set j x').map (·.key) = ks.map (·.key) := by
  obtain ⟨hl, hx⟩ := List.getElem?_eq_some_iff.1 hj
  rw [List.map_set, hk, ← hx]
  have : (ks.map (·.key))[j]'(by simpa using hl) = ks[j].key := by simp
  rw [← this, List.set_getElem_self]
theorem set_live {ks : List SE} (hn : (ks.map (·.key)).Nodup) {j : Nat} {x x' : SE} (hj : ks[j]? = some x) (hk : x'.key = x.key) (k : List UInt8) :
    (liveAt (ks.set j x') k = if k = x.key then x'.l else liveAt ks k) ∧ (deadAt (ks.set j x') k = if k = x.key then x'.dd else deadAt ks k) := by
  have hks := set_keys hj hk
  have hn' : ((ks.set j x').map (·.key)).Nodup := by rw [hks]; exact hn
  obtain ⟨hl, hx⟩ := List.getElem?_eq_some_iff.1 hj
  have hj' : (ks.set j x')[j]? = some x' := by rw [List.getElem?_set_self hl]
  by_cases he : k = x.key
  · rw [if_pos he, if_pos he, he, ← hk]
    exact ⟨live_in hn' hj', dead_in hn' hj'⟩
  rw [if_neg he, if_neg he]
  by_cases hm : k ∈ ks.map (·.key)
  · obtain ⟨i, y, hi, rfl⟩ := has_key hm
    have hij : j ≠ i := fun e => by
      subst e
      rw [hj] at hi
      cases hi
      exact he rfl
    have hi' : (ks.set j x')[i]? = some y := by rw [List.getElem?_set_ne hij]; exact hi
    exact ⟨(live_in hn' hi').trans (live_in hn hi).symm, (dead_in hn' hi').trans (dead_in hn hi).symm⟩
  · have hm' : k ∉ (ks.set j x').map (·.key) := by rw [hks]; exact hm
    exact ⟨(live_out hm').trans (live_out hm).symm, (dead_out hm').trans (dead_out hm).symm⟩
structure Applied (S : SpV) (e : EvV) (S' : SpV) : Prop where
  wf : SpWf S'
  v : S'.v = putV2 S.v (dotOf e)
  live : liveAt S'.ks e.key = applyL e (liveAt S.ks e.key)
  dead : deadAt S'.ks e.key = deadF e (liveAt S.ks e.key) (deadAt S.ks e.key)
  other : ∀ k, k ≠ e.key → liveAt S'.ks k = liveAt S.ks k ∧ deadAt S'.ks k = deadAt S.ks k
theorem applied_of {S : SpV} {e : EvV} (hw : SpWf S) {μ η j : Nat} {x : SE} {t : Int} (hj : (atK S.ks e.key η)[j]? = some x) (hk : x.key = e.key) :
    Applied S e ⟨some μ, (atK S.ks e.key η).set j ⟨x.key, x.η, applyL e x.l, deadF e x.l x.dd⟩, putV2 S.v (dotOf e), t⟩ := by
  have hn := at_nodup hw.nd e.key η
  have hset := fun k => set_live hn (x' := ⟨x.key, x.η, applyL e x.l, deadF e x.l x.dd⟩) hj rfl k
  have hl : liveAt S.ks e.key = x.l := by rw [← (at_live S.ks e.key η e.key).1]; have := live_in hn hj; rwa [hk] at this
  have hd : deadAt S.ks e.key = x.dd := by rw [← (at_live S.ks e.key η e.key).2]; have := dead_in hn hj; rwa [hk] at this
  refine ⟨⟨fun h => (by cases h), ?_⟩, rfl, ?_, ?_, fun k hne => ?_⟩
  · have hks := set_keys (x' := ⟨x.key, x.η, applyL e x.l, deadF e x.l x.dd⟩) hj rfl
    show (((atK S.ks e.key η).set j ⟨x.key, x.η, applyL e x.l, deadF e x.l x.dd⟩).map (·.key)).Nodup
    rw [hks]; exact hn
  · have := (hset e.key).1
    rw [if_pos hk.symm] at this
    rw [hl]; exact this
  · have := (hset e.key).2
    rw [if_pos hk.symm] at this
    rw [hl, hd]; exact this
  · have h1 := hset k
    rw [if_neg (by rw [hk]; exact hne), if_neg (by rw [hk]; exact hne)] at h1
    exact ⟨h1.1.trans (at_live S.ks e.key η k).1, h1.2.trans (at_live S.ks e.key η k).2⟩
theorem liveF_take (e : EvV) {its L : List (Dt × EvV)} {i : Nat} (hi : i < its.length) : liveF e (its.take (i + 1)) L = if endsG e its[i].2 then remD (liveF e (its.take i) L) its[i].1 else liveF e (its.take i) L := by
  unfold liveF
  rw [List.take_succ_eq_append_getElem hi, List.foldl_append]; rfl
theorem deadF_take (e : EvV) {its : List (Dt × EvV)} {D : List (Dt × (EvV × Dt))} {i : Nat} (hi : i < its.length) : deadF e (its.take (i + 1)) D = if endsG e its[i].2 ∧ its[i].2.kind = 9 then putD (deadF e (its.take i) D) its[i].1 (its[i].2, dotOf e) else deadF e (its.take i) D := by
  unfold deadF
  rw [List.take_succ_eq_append_getElem hi, List.foldl_append]; rfl
theorem ent_to (x : SE) {B1 B2 : Option Addr} {n1 n2 : Nat} {Hr : List Chunk} : Ent (allC (obj x.η [.slice B1 x.l.length n1, .slice B2 x.dd.length n2] :: rowLv B1 x.l n1 :: rowDd B2 x.dd n2 :: Hr)) (allC (entC x :: Hr)) :=
  (Ent.splitC (H1 := [_, _, _])).trans (Ent.sep (Ent.ex ((B1, n1), (B2, n2)) (Ent.refl _)) (Ent.refl _))
theorem ent_toL (x : SE) {B1 B2 : Option Addr} {n1 n2 : Nat} {Hr : List Chunk} : Ent (allC (sepC (obj x.η [.slice B1 x.l.length n1, .slice B2 x.dd.length n2]) (rowLv B1 x.l n1) :: rowDd B2 x.dd n2 :: Hr)) (allC (entC x :: Hr)) :=
  Ent.assocR.trans (ent_to x)
theorem ent_toM (x : SE) {B1 B2 : Option Addr} {n1 n2 : Nat} {Hr : List Chunk} : Ent (allC (sepC (obj x.η [.slice B1 x.l.length n1, .slice B2 x.dd.length n2]) (rowDd B2 x.dd n2) :: rowLv B1 x.l n1 :: Hr)) (allC (entC x :: Hr)) :=
  Ent.assocR.trans ((Ent.sep (Ent.refl _) Ent.swap).trans (ent_to x))
theorem ent_bagL (x : SE) {B1 B2 : Option Addr} {n1 n2 : Nat} {Hr : List Chunk} : Ent (allC (allC [obj x.η [.slice B1 x.l.length n1, .slice B2 x.dd.length n2], rowLv B1 x.l n1, rowDd B2 x.dd n2] :: Hr)) (allC (bagCL x.η (.slice B2 x.dd.length n2) x.l :: rowDd B2 x.dd n2 :: Hr)) :=
  (Ent.joinC (H1 := [_, _, _])).trans ((Ent.splitC (H1 := [_, _])).trans (Ent.sep bag_closeL (Ent.refl _)))
theorem ent_bagM (x : SE) {B1 B2 : Option Addr} {n1 n2 : Nat} {Hr : List Chunk} : Ent (allC (sepC (obj x.η [.slice B1 x.l.length n1, .slice B2 x.dd.length n2]) (rowLv B1 x.l n1) :: rowDd B2 x.dd n2 :: Hr)) (allC (bagCM x.η (.slice B1 x.l.length n1) x.dd :: rowLv B1 x.l n1 :: Hr)) :=
  Ent.assocR.trans ((Ent.sep (Ent.refl _) Ent.swap).trans ((Ent.splitC (H1 := [obj x.η [.slice B1 x.l.length n1, .slice B2 x.dd.length n2], rowDd B2 x.dd n2]) (H2 := rowLv B1 x.l n1 :: Hr)).trans (Ent.sep bag_closeM (Ent.refl _))))
theorem ent_fromL (x : SE) {B2 : Option Addr} {n2 : Nat} {Hr : List Chunk} : Ent (allC (bagCL x.η (.slice B2 x.dd.length n2) x.l :: rowDd B2 x.dd n2 :: Hr)) (allC (entC x :: Hr)) :=
  fun w F ⟨G, K, h1, h2, ⟨p, h3⟩, h4⟩ => ent_toL x (B1 := p.1) (n1 := p.2) w F ⟨G, K, h1, h2, h3, h4⟩
theorem kv_set {ks : List SE} {j : Nat} {x x' : SE} (hj : ks[j]? = some x) (hk : x'.key = x.key) (he : x'.η = x.η) : kvS (ks.set j x') = kvS ks := by
  obtain ⟨hl, hx⟩ := List.getElem?_eq_some_iff.1 hj
  unfold kvS
  rw [List.map_set, hk, he, ← hx]
  have : (ks.map fun x => (x.key, ptr x.η))[j]'(by simpa using hl) = (ks[j].key, ptr ks[j].η) := by simp
  rw [← this, List.set_getElem_self]
theorem ent_back {σ : Nat} {mu : Option Nat} {ks : List SE} {j : Nat} {x x' : SE} {v : Nat → Int} {t : Int} {c : Chunk} (hj : ks[j]? = some x) (hk : x'.key = x.key) (he : x'.η = x.η) :
    Ent (allC [obj σ (spCells (.map mu) v t), mapS mu ks, entC x', allC ((ks.map entC).eraseIdx j), c]) (spC σ ⟨mu, ks.set j x', v, t⟩) := by
  obtain ⟨hl, hx⟩ := List.getElem?_eq_some_iff.1 hj
  have h1 : mapS mu (ks.set j x') = mapS mu ks := by
    unfold mapS
    rw [kv_set hj hk he]
  have h3 := Ent.layBack (c := entC x') (L := ks.map entC) (j := j) (by simpa using hl)
  rw [← List.map_set] at h3
  refine Ent.sep (Ent.refl _) (Ent.sep (Ent.of_eq h1.symm) ?_)
  exact Ent.assocL.trans (Ent.sep h3 Ent.emp)
end Go.Proofs.YtmljgobenlpnfaaGreat
end

section
namespace Go.Proofs.YtmljgobenlpnfaaGreat
open Go.Free Go.RowKit Go.Proofs Go.Free.Sorts
set_option maxHeartbeats 16000000
theorem it_ev (l : List (Dt × EvV)) {i : Nat} (hi : i < l.length) : ((l.flatMap itL).drop (i * 28 + 2)).take l[i].2.enc.length = l[i].2.enc := by
  have h := it_at l hi
  rw [itLL] at h
  rw [← List.drop_drop]
  have h2 : (((l.flatMap itL).drop (i * 28)).drop 2).take 26 = ((((l.flatMap itL).drop (i * 28)).take 28).drop 2) := by rw [List.drop_take]
  rw [encE, h2, h]; rfl
theorem get_fnL (η : Nat) (D : Value) (l : List (Dt × EvV)) (hs : sortedD l) (hl : l.length ≤ 1000000) (d : Dt) :
    SpcR Tryz.prog 47 [.ex (ptr η), .ex (aggD d.1 d.2)] (bagCL η D l) fun _ => .tup [.ex (aggE (valD l d ev0)), .ex (.bool (hereD l d))] := by
  refine SpcR.introOld Tryz.func47 rfl (Nat.le_of_ble_eq_true rfl) fun w0 => ?_
  have hI := hIb w0
  have hA := Own.below w0
  refine J.heap0 1001 (newB w0) ?_
  refine J.seq (J.region mixed hI (by kernel_rfl) ?_)
  refine Plan.boxC (key := 1001) rfl rfl rfl (by intro _ e; cases e; decide) rfl rfl hA fun a => ?_
  refine Plan.allocC (key := 1001) (z := .agg ev0.enc.toArray) rfl rfl rfl (by intro _ e; cases e; decide) (by kernel_rfl) rfl hA fun c => ?_
  repeat (refine Plan.assign rfl rfl rfl rfl ?_)
  refine J.heapAgain 1000 (fun _ h => h) rfl ?_
  refine J.seq (J.region mixed hI (by kernel_rfl) ?_)
  repeat (refine Plan.move rfl rfl rfl rfl ?_)
  refine Plan.loadAggC (key := 1001) (q := 0) (vs := [vi d.1, vi d.2]) rfl rfl rfl rfl rfl rfl (obj_reads rfl) Tryz.underlying34 rfl (by kernel_rfl) (by decide) ?_
  refine Plan.callRG (key := 1000) (B := 0) rfl rfl rfl (place_fnL η D l hs hl d) Tryz.func59 rfl rfl (fun _ _ => Nat.zero_le _) (by repeat (first | exact Opnds.nil | refine Opnds.cons rfl (by exact Sub.refl _) ?_)) rfl Ent.one (by decide) ?_
  repeat (first | refine Plan.move rfl rfl rfl rfl ?_ | refine Plan.assign rfl rfl rfl rfl ?_ | refine Plan.extract rfl rfl rfl rfl rfl ?_)
  refine J.seq (J.seq (J.region mixed hI (by kernel_rfl) ?_))
  repeat (first | refine Plan.move rfl rfl rfl rfl ?_ | refine Plan.un rfl rfl rfl rfl rfl ?_)
  cases hh : hereD l d with
  | false =>
    have hv : valD l d ev0 = ev0 := val_not hh
    rw [hv]
    repeat (fail)
    refine J.condT rfl ?_
    refine J.seq (J.region mixed hI (by kernel_rfl) ?_)
    refine Plan.allocC (key := 1001) (z := .agg ev0.enc.toArray) rfl rfl rfl (by intro _ e; cases e; decide) (by kernel_rfl) rfl hA fun b => ?_
    repeat (fail)
    refine J.seq (J.region mixed hI (by kernel_rfl) ?_)
    refine Plan.loadAggC (key := 1001) (q := 2) (vs := ev0.enc) rfl rfl rfl rfl rfl rfl obj_whole Tryz.underlying40 rfl (by rw [encE]; kernel_rfl) (by decide) ?_
    refine Plan.storeC (key := 1001) (q := 1) (off := 0) rfl rfl rfl rfl rfl rfl (by simp [Value.cells, Value.oneCell', EvV.enc, str]) (by show _ = some ev0.enc.toArray.size; kernel_rfl) rfl hA rfl (obj_pat (Nat.le_of_ble_eq_true rfl)) ?_
    repeat (refine Plan.assign rfl rfl rfl rfl ?_)
    exact J.ret (Nrm.retCT (key := 1001) (q := 1) rfl (fun _ h => h) rfl rfl rfl obj_whole Tryz.underlying40 rfl (by kernel_rfl) fun B _ => ⟨_, _, rfl, rfl, Sub.refl _⟩)
  | true =>
    obtain ⟨y, hy, hyd⟩ := here_at hh
    have hlt : posD l d < l.length := (List.getElem?_eq_some_iff.1 hy).1
    have hyl : l[posD l d] = y := (List.getElem?_eq_some_iff.1 hy).2
    have hv : valD l d ev0 = y.2 := by unfold valD; rw [hh, hy]; rfl
    rw [hv]
    have hev := it_ev l hlt
    rw [hyl] at hev
    repeat (fail)
    refine J.condF rfl ?_
    refine J.skip ?_
    refine J.exC (key := 1000) (q := 0) rfl rfl fun p => ?_
    refine J.sepC (key := 1000) (q := 0) rfl rfl ?_
    refine J.tellC (key := 1000) (q := 1) rfl rfl (row_at (by rw [flat_len itLL]; omega)) ?_
    obtain ⟨B, cap⟩ := p
    dsimp only
    rintro ⟨g, rfl⟩
    refine J.seq (J.region mixed hI (by kernel_rfl) ?_)
    repeat (first | refine Plan.move rfl rfl rfl rfl ?_ | refine Plan.nilOk rfl rfl rfl rfl ?_ | refine Plan.fieldC rfl rfl rfl rfl (by first | exact Tryz.underlying58 | exact Tryz.underlying72) rfl (by kernel_rfl) (by exact (rfl : _ = 0)) ?_ | refine Plan.loadC (key := 1000) (q := 0) rfl rfl rfl rfl rfl rfl (obj_reads1 rfl) (by first | exact Tryz.underlying3 | exact Tryz.underlying70) (by rfl) (by decide) ?_)
    refine Plan.indexC (off := posD l d * 28) rfl rfl rfl rfl rfl eltItL hlt (by omega) ?_
    refine Plan.fieldC (off := posD l d * 28 + 2) rfl rfl rfl rfl Tryz.underlying80 rfl (by kernel_rfl) rfl ?_
    refine Plan.loadAggC (key := 1000) (q := 1) (off := posD l d * 28 + 2) (vs := y.2.enc) rfl rfl rfl rfl rfl rfl (row_reads hev) Tryz.underlying40 rfl (by rw [encE]; kernel_rfl) (by decide) ?_
    refine Plan.storeC (key := 1001) (q := 1) (off := 0) rfl rfl rfl rfl rfl rfl (by simp [Value.cells, Value.oneCell', EvV.enc, str]) (by show _ = some y.2.enc.toArray.size; kernel_rfl) rfl hA rfl (obj_pat (Nat.le_of_ble_eq_true rfl)) ?_
    repeat (refine Plan.assign rfl rfl rfl rfl ?_)
    exact J.ret (Nrm.retCT (key := 1001) (q := 1) rfl (fun _ h => h) rfl rfl rfl obj_whole Tryz.underlying40 rfl (by kernel_rfl) fun B _ => ⟨_, _, rfl, rfl, Sub.refl _⟩)
theorem spType_fn (σ : Nat) (S : SpV) (hw : SpWf S) (hl : ∀ x ∈ S.ks, x.l.length ≤ 1000000) (key : List UInt8) (hok : ∀ e ∈ evsB (liveAt S.ks key), e.okV) (hu : unlikeM (evsB (liveAt S.ks key))) (hln : (liveAt S.ks key).length ≤ 1000000) :
    SpcC Tryz.prog 15 [.ex (ptr σ), .ex (str key)] (spC σ S) (fun _ : Unit => True) (fun _ => .ex (vi (typeM (evsB (liveAt S.ks key)) key))) (fun _ => spC σ S) := by
  refine SpcC.intro Tryz.func15 rfl (Nat.le_of_ble_eq_true rfl) fun w0 F => ?_
  have hI := kept_below F w0
  have hA := Own.kept F w0
  have hbl : (evsB (liveAt S.ks key)).length = (liveAt S.ks key).length := by unfold evsB; rw [List.length_map]
  refine J.seq (J.region mixed hI (by kernel_rfl) ?_)
  repeat (refine Plan.assign rfl rfl rfl rfl ?_)
  refine J.seq (J.region mixed hI (by kernel_rfl) ?_)
  repeat (refine Plan.move rfl rfl rfl rfl ?_)
  refine Plan.callC (key := 1000) (q := 0) rfl rfl rfl (events_fn σ S hw hl key) Tryz.func40 rfl rfl (by intro _ e; cases e; decide) (by repeat (first | exact Opnds.nil | refine Opnds.cons rfl (by exact Sub.refl _) ?_)) rfl hA rfl ?_
  rintro ⟨O, oc⟩ _
  repeat (refine Plan.move rfl rfl rfl rfl ?_)
  refine Plan.regroup [spC σ S, rowEv O (liveAt S.ks key).length oc (evsC (evsB (liveAt S.ks key)))] (by kernel_rfl) hI (key := 1000) rfl Ent.one ?_
  refine Plan.seeC (t := 7) (key := 1000) (q := 1) (xs := evsC (evsB (liveAt S.ks key))) (by kernel_rfl) hI rfl rfl rfl (fun w F hh => row_rowH hh) ?_
  refine Plan.call (B := 0) rfl rfl rfl (type_fn (evsB (liveAt S.ks key)) (by omega) hok hu key) Tryz.func16 rfl rfl (fun _ _ => Nat.zero_le _) (by repeat (first | exact Opnds.nil | refine Opnds.cons rfl (by exact Sub.refl _) ?_)) ?_
  repeat (refine Plan.assign rfl rfl rfl rfl ?_)
  exact J.ret (Nrm.retC1 (key := 1000) () rfl rfl rfl trivial (Sub.refl _) Ent.left)
def ofS (L : List EvV) (key : List UInt8) (ty : Int) : List EvV := if typeM L key = ty then ofM L key else []
theorem spOf_fn (σ : Nat) (S : SpV) (hw : SpWf S) (hl : ∀ x ∈ S.ks, x.l.length ≤ 1000000) (key : List UInt8) (hok : ∀ e ∈ evsB (liveAt S.ks key), e.okV) (hu : unlikeM (evsB (liveAt S.ks key))) (hln : (liveAt S.ks key).length ≤ 1000000) (ty : Int) :
    SpcC Tryz.prog 42 [.ex (ptr σ), .ex (str key), .ex (vi ty)] (spC σ S) (fun _ : Option Addr × Nat => True) (fun x => .ex (.slice x.1 (ofS (evsB (liveAt S.ks key)) key ty).length x.2))
      (fun x => allC [spC σ S, rowEv x.1 (ofS (evsB (liveAt S.ks key)) key ty).length x.2 (evsC (ofS (evsB (liveAt S.ks key)) key ty))]) := by
  refine SpcC.intro Tryz.func42 rfl (Nat.le_of_ble_eq_true rfl) fun w0 F => ?_
  have hI := kept_below F w0
  have hA := Own.kept F w0
  obtain ⟨L, hL⟩ : ∃ L, L = evsB (liveAt S.ks key) := ⟨_, rfl⟩
  have hbl : L.length = (liveAt S.ks key).length := by rw [hL]; unfold evsB; rw [List.length_map]
  have hev := events_fn σ S hw hl key
  rw [← hL] at hok hu hev ⊢
  refine J.seq (J.region mixed hI (by kernel_rfl) ?_)
  repeat (refine Plan.assign rfl rfl rfl rfl ?_)
  refine J.seq (J.region mixed hI (by kernel_rfl) ?_)
  repeat (refine Plan.move rfl rfl rfl rfl ?_)
  refine Plan.callC (key := 1000) (q := 0) rfl rfl rfl (hev) Tryz.func40 rfl rfl (by intro _ e; cases e; decide) (by repeat (first | exact Opnds.nil | refine Opnds.cons rfl (by exact Sub.refl _) ?_)) rfl hA rfl ?_
  rintro ⟨O, oc⟩ _
  repeat (refine Plan.assign rfl rfl rfl rfl ?_)
  refine J.regroup (key := 1000) [spC σ S, rowEv O (liveAt S.ks key).length oc (evsC L)] rfl Ent.one ?_
  refine J.seq (J.seq (J.region mixed hI (by kernel_rfl) ?_))
  repeat (refine Plan.move rfl rfl rfl rfl ?_)
  refine Plan.seeC (t := 11) (key := 1000) (q := 1) (xs := evsC L) (by kernel_rfl) hI rfl rfl rfl (fun w F hh => row_rowH hh) ?_
  refine Plan.call (B := 0) rfl rfl rfl (type_fn L (by omega) hok hu key) Tryz.func16 rfl rfl (fun _ _ => Nat.zero_le _) (by repeat (first | exact Opnds.nil | refine Opnds.cons rfl (by exact Sub.refl _) ?_)) ?_
  repeat (first | refine Plan.move rfl rfl rfl rfl ?_ | (refine Plan.ints rfl rfl rfl rfl rfl rfl ?_; (skip)))
  by_cases ht : typeM L key = ty
  case neg =>
    have ho : ofS L key ty = [] := if_neg ht
    rw [ho]
    refine Plan.boolv (y := true) (by simp [ht]) ?_
    refine J.condT rfl ?_
    refine J.nilRow (key := 1000) 40 26 rfl ?_
    refine J.seq (J.region mixed hI (by kernel_rfl) ?_)
    repeat (refine Plan.assign rfl rfl rfl rfl ?_)
    exact J.ret (Nrm.retC1 (key := 1000) (none, 0) rfl rfl rfl trivial (Sub.refl _) (Ent.pickC [0, 2] rfl rfl))
  case pos =>
  have ho : ofS L key ty = ofM L key := if_pos ht
  rw [ho]
  refine Plan.boolv (y := false) (by simp [ht]) ?_
  refine J.condF rfl ?_
  refine J.skip ?_
  refine J.seq (J.region mixed hI (by kernel_rfl) ?_)
  repeat (refine Plan.move rfl rfl rfl rfl ?_)
  refine Plan.seeC (t := 16) (key := 1000) (q := 1) (xs := evsC L) (by kernel_rfl) hI rfl rfl rfl (fun w F hh => row_rowH hh) ?_
  refine Plan.callN (key := 1000) rfl rfl rfl ((Of_fn L (by omega) hok hu key).toC) Tryz.func70 rfl rfl (by intro _ e; cases e; decide) (by repeat (first | exact Opnds.nil | refine Opnds.cons rfl (by exact Sub.refl _) ?_)) rfl hA ?_
  rintro ⟨O2, m2, oc2⟩ hm2
  obtain rfl : m2 = (ofM L key).length := by dsimp only at hm2; rw [evs_len] at hm2; omega
  dsimp only
  repeat (refine Plan.assign rfl rfl rfl rfl ?_)
  exact J.ret (Nrm.retC1 (key := 1000) (O2, oc2) rfl rfl rfl trivial (Sub.refl _) (Ent.pickC [0, 2] rfl rfl))
end Go.Proofs.YtmljgobenlpnfaaGreat
end

section
namespace Go.Proofs.YtmljgobenlpnfaaGreat
open Go.Free Go.RowKit Go.Proofs Go.Free.Sorts
set_option maxHeartbeats 16000000
theorem here1_fn (τ η : Nat) (D : Value) (l : List (Dt × EvV)) (hs : sortedD l) (hl : l.length ≤ 1000000) (e : EvV) :
    SpcR Tryz.prog 46 [.ex (aggE e), .ex (ptr τ)] (allC [obj τ [ptr η], bagCL η D l]) fun _ => .ex (.bool (!hereD l (dotOf e))) := by
  refine SpcR.introOld Tryz.func46 rfl (Nat.le_of_ble_eq_true rfl) fun w0 => ?_
  have hI := hIb w0
  have hA := Own.below w0
  refine J.tellOld (q := 0) (p := ∃ F1 F2, (obj τ [ptr η]).holds w0 F1 ∧ (bagCL η D l).holds w0 F2) rfl rfl (fun F ⟨F1, G, _, _, h1, ⟨F2, _, _, _, h2, _⟩⟩ => ⟨F1, F2, h1, h2⟩) ?_
  rintro ⟨F1, F2, h1, h2⟩
  have hk : ∀ w, Below w0.heap.size w0 w → Kept (fun _ => False) w0 w := fun w h => .ofBelow h
  refine J.heap0 1000 (newB w0) ?_
  refine J.seq (J.region mixed hI (by kernel_rfl) ?_)
  refine Plan.boxC (key := 1000) rfl rfl rfl (by intro _ e; cases e; decide) rfl rfl hA fun a => ?_
  repeat (refine Plan.assign rfl rfl rfl rfl ?_)
  have hI0 := hI
  have hA0 := hA
  refine J.frame (key := 1000) 0 rfl rfl fun hAa => ?_
  have hI := framed_I (β := a) (cs := e.enc) hI0
  have hA := framed_own (β := a) (cs := e.enc) hA0
  refine J.seq (J.loose2 [(0, ptr η), (1, ptr η), (2, ptr η), (3, ptr a), (4, aggD e.r e.n), (5, .tuple #[aggE (valD l (dotOf e) ev0), .bool (hereD l (dotOf e))]), (6, .tuple #[aggE (valD l (dotOf e) ev0), .bool (hereD l (dotOf e))]), (7, aggE (valD l (dotOf e) ev0)), (8, .bool (hereD l (dotOf e)))] [(1, .ex (ptr τ)), (2, .ex (ptr a))] mixed hI rfl rfl rfl (by kernel_rfl) (by kernel_rfl) (by kernel_rfl) rfl rfl (fun ⟨_, _, h⟩ => h) (fun _ _ _ _ h => h) (by repeat (first | exact Weak.nil | refine Weak.cons rfl (Sub.refl _) ?_)) ?_ ?_)
  · refine Gives.cons [(1, .ex (ptr τ)), (2, .ex (ptr a))] (by kernel_rfl) rfl (by kernel_rfl) (Plan.loadI rfl rfl rfl rfl (fun w h => obj_reads1 rfl w F1 ((obj τ [ptr η]).keep h1 (hk w h.1) fun _ _ h => h)) Tryz.underlying68 rfl (Plan.gives rfl)) ?_
    refine Gives.cons [(7, .ex (ptr η)), (1, .ex (ptr τ)), (2, .ex (ptr a))] (by kernel_rfl) rfl (by kernel_rfl) (Plan.nilOk rfl rfl rfl rfl (Plan.gives rfl)) ?_
    refine Gives.cons [(7, .ex (ptr η)), (8, .ex (ptr η)), (1, .ex (ptr τ)), (2, .ex (ptr a))] (by kernel_rfl) rfl (by kernel_rfl) (Plan.fieldC rfl rfl rfl rfl Tryz.underlying77 rfl (by kernel_rfl) rfl (Plan.gives rfl)) ?_
    refine Gives.cons [(1, .ex (ptr τ)), (2, .ex (ptr a))] (by kernel_rfl) rfl (by kernel_rfl) (Plan.fieldC rfl rfl rfl rfl Tryz.underlying40 rfl (by kernel_rfl) rfl (Plan.gives rfl)) ?_
    refine Gives.cons [(10, .ex (ptr a)), (1, .ex (ptr τ)), (2, .ex (ptr a))] (by kernel_rfl) rfl (by kernel_rfl) (Plan.loadAggI (vs := [vi e.r, vi e.n]) rfl rfl rfl rfl (fun w h => framed_cell (off := 0) rfl w h) Tryz.underlying34 rfl (by kernel_rfl) (Plan.gives rfl)) ?_
    refine Gives.cons [(7, .ex (ptr η)), (8, .ex (ptr η)), (9, .ex (ptr η)), (10, .ex (ptr a)), (11, .ex (aggD e.r e.n)), (1, .ex (ptr τ)), (2, .ex (ptr a))] (by kernel_rfl) rfl (by kernel_rfl) (Plan.callRI (B := 0) rfl rfl rfl (get_fnL η D l hs hl (dotOf e)) Tryz.func47 rfl rfl (fun _ _ => Nat.zero_le _) (Opnds.cons rfl (Sub.refl _) (Opnds.cons rfl (Sub.refl _) Opnds.nil)) (fun w h => ⟨F2, (bagCL η D l).keep h2 (hk w h.1) fun _ _ h => h⟩) (Plan.weakE [(12, .ex (.tuple #[aggE (valD l (dotOf e) ev0), .bool (hereD l (dotOf e))]))] (Weak.cons rfl Sub.tupEx Weak.nil) (Plan.gives rfl))) ?_
    refine Gives.cons [(7, .ex (ptr η)), (8, .ex (ptr η)), (9, .ex (ptr η)), (10, .ex (ptr a)), (11, .ex (aggD e.r e.n)), (12, .ex (.tuple #[aggE (valD l (dotOf e) ev0), .bool (hereD l (dotOf e))])), (1, .ex (ptr τ)), (2, .ex (ptr a))] (by kernel_rfl) rfl (by kernel_rfl) (Plan.move rfl rfl rfl rfl (Plan.gives rfl)) ?_
    refine Gives.cons [(7, .ex (ptr η)), (8, .ex (ptr η)), (9, .ex (ptr η)), (10, .ex (ptr a)), (11, .ex (aggD e.r e.n)), (12, .ex (.tuple #[aggE (valD l (dotOf e) ev0), .bool (hereD l (dotOf e))])), (6, .ex (.tuple #[aggE (valD l (dotOf e) ev0), .bool (hereD l (dotOf e))])), (1, .ex (ptr τ)), (2, .ex (ptr a))] (by kernel_rfl) rfl (by kernel_rfl) (Plan.extractEx rfl rfl rfl rfl rfl (Plan.gives rfl)) ?_
    exact Gives.cons [(7, .ex (ptr η)), (8, .ex (ptr η)), (9, .ex (ptr η)), (10, .ex (ptr a)), (11, .ex (aggD e.r e.n)), (12, .ex (.tuple #[aggE (valD l (dotOf e) ev0), .bool (hereD l (dotOf e))])), (6, .ex (.tuple #[aggE (valD l (dotOf e) ev0), .bool (hereD l (dotOf e))])), (1, .ex (ptr τ)), (2, .ex (ptr a))] (by kernel_rfl) rfl (by kernel_rfl) (Plan.extractEx rfl rfl rfl rfl rfl (Plan.gives rfl)) Gives.nil
  repeat (refine Plan.assign rfl rfl rfl rfl ?_)
  refine Plan.allocC (key := 1000) (z := .agg ev0.enc.toArray) rfl rfl rfl (by intro _ e; cases e; decide) (by kernel_rfl) rfl hA fun c => ?_
  refine Plan.storeC (key := 1000) (q := 0) (off := 0) rfl rfl rfl rfl rfl rfl (fun u hu => encE_one _ u hu) (by show _ = some (EvV.enc _).toArray.size; kernel_rfl) rfl hA rfl (obj_pat (Nat.le_of_ble_eq_true rfl)) ?_
  repeat (refine Plan.assign rfl rfl rfl rfl ?_)
  refine J.unframe (key := 1000) hAa rfl ?_
  have hI := hI0
  refine J.seq (J.region mixed hI (by kernel_rfl) ?_)
  repeat (first | refine Plan.move rfl rfl rfl rfl ?_ | refine Plan.assign rfl rfl rfl rfl ?_ | refine Plan.un rfl rfl rfl rfl rfl ?_)
  exact J.ret (Nrm.ret1 rfl (fun _ h => h) rfl fun B _ => Sub.refl _)
end Go.Proofs.YtmljgobenlpnfaaGreat
end

section
namespace Go.Proofs.YtmljgobenlpnfaaGreat
open Go.Free Go.RowKit Go.Proofs Go.Free.Sorts
set_option maxHeartbeats 16000000
theorem itM_at (l : List (Dt × (EvV × Dt))) {i : Nat} (hi : i < l.length) : ((l.flatMap itM).drop (i * 30)).take (itM l[i]).length = itM l[i] := by
  have e : l.flatMap itM = (l.take i).flatMap itM ++ (itM l[i] ++ (l.drop (i + 1)).flatMap itM) := by
    have : l.flatMap itM = (l.take i ++ l[i] :: l.drop (i + 1)).flatMap itM := by rw [List.getElem_cons_drop, List.take_append_drop]
    rw [this, List.flatMap_append, List.flatMap_cons]
  rw [e, List.drop_left' (by rw [flat_len itLM, List.length_take, Nat.min_eq_left (by omega)]), List.take_left]
theorem evsT_take {l : List (Dt × (EvV × Dt))} {i : Nat} (hi : i < l.length) : evsT (l.take (i + 1)) = evsT (l.take i) ++ [l[i].2.1] := by
  unfold evsT
  rw [List.take_succ_eq_append_getElem hi, List.map_append]; rfl
def itemsS (ks : List SE) (key : List UInt8) : List EvV :=
  if ofS (evsB (liveAt ks key)) key 6 = [] then [] else keepE (fun e => !hereD (liveAt ks key) (dotOf e)) (orderM key (ofS (evsB (liveAt ks key)) key 6 ++ evsT (deadAt ks key)))
abbrev siHc (σ : Nat) (S : SpV) (x : SE) (B1 : Option Addr) (n1 : Nat) (B2 : Option Addr) (n2 : Nat) (R : Chunk) (τ : Nat) (M : List EvV) (Bi : Option Addr) (ci : Nat) (s : Nat × Option Addr × Nat) : List Chunk :=
  [obj σ (spCells (.map S.mu) S.v S.t), mapS S.mu S.ks, obj x.η [.slice B1 x.l.length n1, .slice B2 x.dd.length n2], rowLv B1 x.l n1, rowDd B2 x.dd n2, R, rowEv s.2.1 (M.length + s.1) s.2.2 (evsC (M ++ evsT (x.dd.take s.1))), obj τ [ptr x.η], rowDd Bi x.dd ci]
def siA (F : Nat → Prop) (w0 : World) (σ : Nat) (S : SpV) (x : SE) (B1 : Option Addr) (n1 : Nat) (B2 : Option Addr) (n2 : Nat) (R : Chunk) (τ : Nat) (M : List EvV) (Bi : Option Addr) (ci : Nat) (s : Nat × Option Addr × Nat) : Env :=
  [(1, .ex (str x.key)), (5, .ex (.slice s.2.1 (M.length + s.1) s.2.2)), (6, .ex (ptr τ)), (24, .ex (.slice Bi x.dd.length ci)), (25, .ex (vi x.dd.length)), (26, .ex (vi s.1)), (1000, heap (fun b => F b ∨ w0.heap.size ≤ b) (siHc σ S x B1 n1 B2 n2 R τ M Bi ci s))]
theorem spItems_fn (σ : Nat) (S : SpV) (hw : SpWf S) (hl : ∀ x ∈ S.ks, x.l.length ≤ 100000) (hld : ∀ x ∈ S.ks, x.dd.length ≤ 100000) (key : List UInt8) (hok : ∀ e ∈ evsB (liveAt S.ks key), e.okV) (hokd : ∀ e ∈ evsT (deadAt S.ks key), e.okV) (hu : unlikeM (evsB (liveAt S.ks key))) (hs : sortedD (liveAt S.ks key)) (hln : (liveAt S.ks key).length ≤ 100000) :
    SpcC Tryz.prog 17 [.ex (ptr σ), .ex (str key)] (spC σ S) (fun _ : Option Addr × Nat => True) (fun x => .ex (.slice x.1 (itemsS S.ks key).length x.2))
      (fun x => allC [spC σ S, rowEv x.1 (itemsS S.ks key).length x.2 (evsC (itemsS S.ks key))]) := by
  refine SpcC.intro Tryz.func17 rfl (Nat.le_of_ble_eq_true rfl) fun w0 F => ?_
  have hI := kept_below F w0
  have hA := Own.kept F w0
  obtain ⟨M, hM⟩ : ∃ M, M = ofS (evsB (liveAt S.ks key)) key 6 := ⟨_, rfl⟩
  have hof := spOf_fn σ S hw (fun x hx => Nat.le_trans (hl x hx) (by decide)) key hok hu (by omega) 6
  rw [← hM] at hof
  have hML : ∀ e ∈ M, e ∈ evsB (liveAt S.ks key) := fun e he => by
    rw [hM] at he
    unfold ofS at he
    split at he
    · have h1 := (List.mem_filter.1 he).1
      unfold liveK at h1
      rw [sortE_mem, all_own] at h1
      exact h1.1
    · cases he
  have hMl : M.length ≤ 100000 := by
    rw [hM]
    unfold ofS
    split
    · have h1 : (ofM (evsB (liveAt S.ks key)) key).length ≤ (liveK (evsB (liveAt S.ks key)) key).length := List.length_filter_le _ _
      have h2 : (liveK (evsB (liveAt S.ks key)) key).length ≤ (evsB (liveAt S.ks key)).length := by
        unfold liveK
        rw [sortE_len]
        have : (allU (ownK key (evsB (liveAt S.ks key)))).length ≤ (ownK key (evsB (liveAt S.ks key))).length := List.length_filter_le _ _
        have := ownK_len key (evsB (liveAt S.ks key))
        omega
      have h3 : (evsB (liveAt S.ks key)).length = (liveAt S.ks key).length := by unfold evsB; rw [List.length_map]
      omega
    · simp
  refine J.seq (J.region mixed hI (by kernel_rfl) ?_)
  repeat (refine Plan.assign rfl rfl rfl rfl ?_)
  refine J.seq (J.region mixed hI (by kernel_rfl) ?_)
  repeat (refine Plan.move rfl rfl rfl rfl ?_)
  refine Plan.callC (key := 1000) (q := 0) rfl rfl rfl (hof) Tryz.func42 rfl rfl (by intro _ e; cases e; decide) (by repeat (first | exact Opnds.nil | refine Opnds.cons rfl (by exact Sub.refl _) ?_)) rfl hA rfl ?_
  rintro ⟨O, oc⟩ _
  repeat (refine Plan.assign rfl rfl rfl rfl ?_)
  refine J.regroup (key := 1000) [spC σ S, rowEv O M.length oc (evsC M)] rfl Ent.one ?_
  refine J.seq (J.seq (J.region mixed hI (by kernel_rfl) ?_))
  repeat (first | refine Plan.move rfl rfl rfl rfl ?_ | refine Plan.lenE rfl rfl rfl rfl (by first | exact Tryz.underlying56 | exact Tryz.underlying22) ?_ | (refine Plan.ints rfl rfl rfl rfl rfl rfl ?_; (skip)))
  by_cases h0 : M = []
  case pos =>
    have hi : itemsS S.ks key = [] := by unfold itemsS; rw [← hM, if_pos h0]
    rw [hi, h0]
    refine Plan.boolv (y := true) (by simp) ?_
    refine J.condT rfl ?_
    refine J.nilRow (key := 1000) 40 26 rfl ?_
    refine J.seq (J.region mixed hI (by kernel_rfl) ?_)
    repeat (refine Plan.assign rfl rfl rfl rfl ?_)
    exact J.ret (Nrm.retC1 (key := 1000) (none, 0) rfl rfl rfl trivial (Sub.refl _) (Ent.pickC [0, 2] rfl rfl))
  case neg =>
  have hi : itemsS S.ks key = keepE (fun e => !hereD (liveAt S.ks key) (dotOf e)) (orderM key (M ++ evsT (deadAt S.ks key))) := by unfold itemsS; rw [← hM, if_neg h0]
  rw [hi]
  have hpos : M.length ≠ 0 := fun h => h0 (List.eq_nil_of_length_eq_zero h)
  refine Plan.boolv (y := false) (by simp [h0]) ?_
  refine J.condF rfl ?_
  refine J.skip ?_
  have hk : key ∈ S.ks.map (·.key) := by
    refine Classical.byContradiction fun h => ?_
    have h1 := live_out h
    obtain ⟨e, he⟩ : ∃ e, e ∈ M := List.exists_mem_of_ne_nil M h0
    have h2 := hML e he
    rw [h1] at h2
    cases h2
  clear hi hof
  obtain ⟨j, x, hj, rfl⟩ := has_key hk
  have hm := sp_in hw.nd hj (.pointer none)
  have hjl := (List.getElem?_eq_some_iff.1 hj).1
  have hxl := hl x (List.mem_of_getElem? hj)
  have hxd := hld x (List.mem_of_getElem? hj)
  rw [live_in hw.nd hj] at hok hu hs hM hln hML ⊢
  rw [dead_in hw.nd hj] at hokd ⊢
  refine J.regroup (key := 1000) [obj σ (spCells (.map S.mu) S.v S.t), mapS S.mu S.ks, allC (S.ks.map entC), rowEv O M.length oc (evsC M)] rfl (Ent.joinC (H1 := spH σ S.mu S.ks S.v S.t)) ?_
  refine J.seq (J.region mixed hI (by kernel_rfl) ?_)
  repeat (first | refine Plan.move rfl rfl rfl rfl ?_ | refine Plan.nilOk rfl rfl rfl rfl ?_ | refine Plan.fieldC rfl rfl rfl rfl (by first | exact Tryz.underlying58 | exact Tryz.underlying55) rfl (by kernel_rfl) (by exact (rfl : _ = 0)) ?_ | refine Plan.loadC (key := 1000) (q := 0) rfl rfl rfl rfl rfl rfl (obj_reads1 rfl) (by first | exact Tryz.underlying3 | exact Tryz.underlying53) (by rfl) (by decide) ?_)
  refine Plan.lookupS (key := 1000) (q := 1) (z := .pointer none) (mu := S.mu) (ks := S.ks) hw.none rfl rfl rfl rfl rfl Tryz.underlying53 Tryz.underlying9 (by kernel_rfl) rfl rfl (by decide) ?_
  rw [hm]
  refine Plan.allocC (key := 1000) (z := .pointer none) rfl rfl rfl (by intro _ e; cases e; decide) (by kernel_rfl) rfl hA fun τ => ?_
  refine Plan.storeC (key := 1000) (q := 4) (off := 0) rfl rfl rfl rfl rfl rfl (by simp [Value.cells, Value.oneCell']) (by kernel_rfl) rfl hA rfl (obj_pat (Nat.le_of_ble_eq_true rfl)) ?_
  repeat (fail)
  refine J.openE (key := 1000) hj rfl fun B1 n1 B2 n2 => ?_
  obtain ⟨R, hR⟩ : ∃ R, R = allC ((S.ks.map entC).eraseIdx j) := ⟨_, rfl⟩
  rw [← hR]
  refine J.regroup (key := 1000) [obj σ (spCells (.map S.mu) S.v S.t), mapS S.mu S.ks, obj x.η [.slice B1 x.l.length n1, .slice B2 x.dd.length n2], rowLv B1 x.l n1, rowDd B2 x.dd n2, R, rowEv O M.length oc (evsC M), obj τ [ptr x.η]] rfl (Ent.refl _) ?_
  refine J.seq (J.seq (J.region mixed hI (by kernel_rfl) ?_))
  refine Plan.loadC (key := 1000) (q := 7) (off := 0) (v := ptr x.η) rfl rfl rfl rfl rfl rfl (obj_reads1 rfl) Tryz.underlying68 rfl (by decide) ?_
  repeat (first | refine Plan.nilOk rfl rfl rfl rfl ?_ | refine Plan.fieldC rfl rfl rfl rfl (by first | exact Tryz.underlying58 | exact Tryz.underlying77) rfl (by kernel_rfl) (by exact (rfl : _ = 1)) ?_)
  refine Plan.callRO (key := 1000) rfl rfl rfl (items_fnM x.η (.slice B1 x.l.length n1) x.dd (by omega)) (fun _ => rfl) Tryz.func43 rfl rfl (by intro _ e; cases e; decide) (by repeat (first | exact Opnds.nil | refine Opnds.cons rfl (by exact Sub.refl _) ?_)) rfl hA ((Ent.pickC [2, 4] rfl rfl).trans bag_closeM) fun Bi m ci hmi => ?_
  obtain rfl : m = x.dd.length := by rw [flat_len itLM] at hmi; omega
  refine Plan.lenE rfl rfl rfl rfl Tryz.underlying73 ?_
  repeat (refine Plan.move rfl rfl rfl rfl ?_)
  refine J.block (J.loop (siA F w0 σ S x B1 n1 B2 n2 R τ M Bi ci) (fun s => s.1 ≤ x.dd.length) (fun s => x.dd.length - s.1) (0, O, oc) (Nat.zero_le _) ?_ ?_)
  · unfold siA siHc
    dsimp only
    have h0e : M ++ evsT (x.dd.take 0) = M := by rw [List.take_zero]; exact List.append_nil M
    rw [h0e]
    repeat (first | exact Weak.nil | refine Weak.cons rfl (Sub.refl _) ?_)
  rintro ⟨i, O', oc'⟩ hi
  simp only at hi
  change J _ _ _ _ _ (siA F w0 σ S x B1 n1 B2 n2 R τ M Bi ci (i, O', oc'))
  refine J.seq (J.region mixed hI (by kernel_rfl) ?_)
  repeat ((refine Plan.ints rfl rfl rfl rfl rfl rfl ?_; (skip)))
  refine J.seq (J.condD rfl (fun hc => ?_) (fun hc => ?_))
  · have hlt : i < x.dd.length := by
      first | omega | (dsimp only at hc; omega)
    have hst := evsT_take hlt
    obtain ⟨y, hy⟩ : ∃ y, y = x.dd[i] := ⟨_, rfl⟩
    have hyx := itM_at x.dd hlt
    rw [← hy] at hst hyx
    have htl : (evsT (x.dd.take i)).length = i := by unfold evsT; rw [List.length_map, List.length_take]; omega
    refine J.skip ?_
    refine J.tellC (key := 1000) (q := 8) rfl rfl (row_at (by rw [flat_len itLM]; omega)) ?_
    rintro ⟨g, rfl⟩
    refine J.seq (J.block ?_)
    refine J.seq (J.region mixed hI (by kernel_rfl) ?_)
    repeat (fail)
    refine Plan.indexC (off := i * 30) rfl rfl rfl rfl rfl eltItM hlt (by omega) ?_
    refine Plan.loadAggC (key := 1000) (q := 8) (off := i * 30) (vs := itM y) rfl rfl rfl rfl rfl rfl (row_reads hyx) Tryz.underlying99 rfl (by rw [itLM]; kernel_rfl) (by decide) ?_
    refine Plan.allocC (key := 1000) (z := .agg (itM it0M).toArray) rfl rfl rfl (by intro _ e; cases e; decide) (by kernel_rfl) rfl hA fun ξ => ?_
    refine Plan.storeC (key := 1000) (q := 9) (off := 0) rfl rfl rfl rfl rfl rfl (fun u hu => itOneM y u hu) (by kernel_rfl) rfl hA rfl (obj_pat (show 0 + (itM y).length ≤ (itM it0M).length by rw [itLM, itLM]; omega)) ?_
    repeat (fail)
    refine J.regroup (key := 1000) (siHc σ S x B1 n1 B2 n2 R τ M (some ⟨g, 0, none⟩) ci (i, O', oc') ++ [obj ξ (itM y)]) rfl (Ent.refl _) ?_
    refine J.region mixed hI (by kernel_rfl) ?_
    repeat (first | refine Plan.move rfl rfl rfl rfl ?_ | refine Plan.fieldC rfl rfl rfl rfl (by first | exact Tryz.underlying58 | exact Tryz.underlying99 | exact Tryz.underlying85) rfl (by kernel_rfl) (by exact (rfl : _ = 2)) ?_)
    refine Plan.loadAggC (key := 1000) (q := 9) (off := 2) (vs := y.2.1.enc) rfl rfl rfl rfl rfl rfl (obj_reads rfl) Tryz.underlying40 rfl (by rw [encE]; kernel_rfl) (by decide) ?_
    refine Plan.lit (B := 0) rfl rfl rfl eltE rfl (fun _ _ => Nat.zero_le _) rfl (by simp [Value.cells, EvV.enc]) (by decide) ?_
    refine Plan.appendC (key := 1000) (q := 6) (B := O') (m := M.length + i) (cap := oc') (xs := evsC (M ++ evsT (x.dd.take i))) (news := evsC [y.2.1]) rfl rfl rfl rfl rfl (Sub.rowEq (by simp [evsC, flat, Value.cells]) Sub.own) eltE (by intro _ e; cases e; decide) rfl hA rfl (evs_one _) (by rw [evs_len, evs_len, List.length_append, htl]; simp; omega) fun B' m' cap' hm' => ?_
    rw [← evs_app, List.append_assoc, ← hst]
    obtain rfl : m' = M.length + (i + 1) := by
      rw [evs_len, evs_len, List.length_append, htl] at hm'
      simp only [List.length_cons, List.length_nil] at hm'
      omega
    repeat (refine Plan.assign rfl rfl rfl rfl ?_)
    refine J.region mixed hI (by kernel_rfl) ?_
    repeat (first | refine Plan.move rfl rfl rfl rfl ?_ | (refine Plan.ints rfl rfl rfl rfl rfl rfl ?_; (refine Plan.int (i64r (by omega)) ?_)))
    refine Plan.int (y := ((i + 1 : Nat) : Int)) (by omega) ?_
    repeat (fail)
    exact Nrm.next (i + 1, B', cap') hlt (by dsimp only; omega) (by repeat (first | exact Weak.nil | refine Weak.cons rfl (Sub.refl _) ?_ | refine Weak.cons rfl (Sub.heap (Ent.pickC [0, 1, 2, 3, 4, 5, 6, 7, 8] rfl rfl)) ?_))
  have hie : i = x.dd.length := by
    first | omega | (dsimp only at hc; omega)
  subst hie
  refine J.exit ?_
  unfold siA siHc
  dsimp only
  rw [List.take_length]
  obtain ⟨L, hL⟩ : ∃ L, L = M ++ evsT x.dd := ⟨_, rfl⟩
  have hLl : L.length = M.length + x.dd.length := by rw [hL, List.length_append]; unfold evsT; rw [List.length_map]
  have hLo : ∀ e ∈ L, e.okV := fun e he => by
    rw [hL] at he
    rcases List.mem_append.1 he with h | h
    · exact hok e (hML e h)
    · exact hokd e h
  rw [← hL, ← hLl]
  have hol := order_len x.key L
  refine J.seq (J.region mixed hI (by kernel_rfl) ?_)
  repeat (refine Plan.move rfl rfl rfl rfl ?_)
  refine Plan.seeC (t := 37) (key := 1000) (q := 6) (xs := evsC L) (by kernel_rfl) hI rfl rfl rfl (fun w F hh => row_rowH hh) ?_
  repeat (fail)
  refine Plan.callN (key := 1000) rfl rfl rfl ((order_fn L (by omega) hLo x.key).toC) Tryz.func45 rfl rfl (by intro _ e; cases e; decide) (by repeat (first | exact Opnds.nil | refine Opnds.cons rfl (by exact Sub.refl _) ?_)) rfl hA ?_
  rintro ⟨O2, m2, oc2⟩ hm2
  obtain rfl : m2 = (orderM x.key L).length := by dsimp only at hm2; rw [evs_len] at hm2; omega
  dsimp only
  repeat (fail)
  refine Plan.makeFn (cs := [.tmp 6]) (caps := [ptr τ]) rfl rfl rfl (vals1 rfl) ?_
  have hdel := delG_fn O2 oc2 (orderM x.key L) (by omega) 46 _ [ptr τ] (fun e => !hereD x.l (dotOf e)) (allC [obj τ [ptr x.η], bagCL x.η (.slice B2 x.dd.length n2) x.l]) Tryz.func46 rfl rfl (fun e _ => here1_fn τ x.η (.slice B2 x.dd.length n2) x.l hs (by omega) e)
  have hdel := hdel.ent2 (d := allC [rowEv O2 (orderM x.key L).length oc2 (evsC (orderM x.key L)), obj τ [ptr x.η], bagCL x.η (.slice B2 x.dd.length n2) x.l]) (d' := fun _ => allC [rowEv O2 (keepE (fun e => !hereD x.l (dotOf e)) (orderM x.key L)).length oc2 (evsC (keepE (fun e => !hereD x.l (dotOf e)) (orderM x.key L))), obj τ [ptr x.η], bagCL x.η (.slice B2 x.dd.length n2) x.l]) (Ent.sep (Ent.refl _) Ent.addEmp) (fun _ => Ent.sep (Ent.refl _) Ent.one)
  obtain ⟨K, hK⟩ : ∃ K, K = keepE (fun e => !hereD x.l (dotOf e)) (orderM x.key L) := ⟨_, rfl⟩
  rw [← hK] at hdel ⊢
  refine Plan.regroup [obj σ (spCells (.map S.mu) S.v S.t), mapS S.mu S.ks, rowDd B2 x.dd n2, R, rowEv O2 (orderM x.key L).length oc2 (evsC (orderM x.key L)), obj τ [ptr x.η], bagCL x.η (.slice B2 x.dd.length n2) x.l] (by kernel_rfl) hI (key := 1000) rfl ((Ent.pickC (H' := [obj σ (spCells (.map S.mu) S.v S.t), mapS S.mu S.ks, rowDd B2 x.dd n2, R, rowEv O2 (orderM x.key L).length oc2 (evsC (orderM x.key L)), obj τ [ptr x.η], obj x.η [.slice B1 x.l.length n1, .slice B2 x.dd.length n2], rowLv B1 x.l n1]) [0, 1, 4, 5, 9, 7, 2, 3] rfl rfl).trans (Ent.sep (Ent.refl _) (Ent.sep (Ent.refl _) (Ent.sep (Ent.refl _) (Ent.sep (Ent.refl _) (Ent.sep (Ent.refl _) (Ent.sep (Ent.refl _) (bag_closeL.trans Ent.addEmp)))))))) ?_
  refine Plan.callL (key := 1000) [4, 5, 6] [0, 1, 2, 3] rfl rfl rfl ((hdel)) Tryz.func44 rfl rfl (by intro _ e; cases e; decide) (by repeat (first | exact Opnds.nil | refine Opnds.cons rfl (by exact Sub.refl _) ?_)) rfl hA rfl rfl rfl ?_
  intro _ _
  repeat (refine Plan.assign rfl rfl rfl rfl ?_)
  refine J.exC (key := 1000) (q := 2) rfl rfl fun p => ?_
  refine J.regroup (key := 1000) [obj σ (spCells (.map S.mu) S.v S.t), mapS S.mu S.ks, obj x.η [.slice p.1 x.l.length p.2, .slice B2 x.dd.length n2], rowLv p.1 x.l p.2, rowDd B2 x.dd n2, R, rowEv O2 K.length oc2 (evsC K)] rfl ((Ent.pickC (H' := [obj σ (spCells (.map S.mu) S.v S.t), mapS S.mu S.ks, sepC (obj x.η [.slice p.1 x.l.length p.2, .slice B2 x.dd.length n2]) (rowLv p.1 x.l p.2), rowDd B2 x.dd n2, R, rowEv O2 K.length oc2 (evsC K)]) [3, 4, 2, 5, 6, 0] rfl rfl).trans (Ent.sep (Ent.refl _) (Ent.sep (Ent.refl _) Ent.assocR))) ?_
  refine J.ret (Nrm.retC1 (key := 1000) (O2, oc2) rfl rfl rfl trivial (Sub.refl _) ?_)
  rw [hR]
  refine (Ent.closeE x hjl).trans ?_
  rw [set_same hj]
  exact Ent.splitC (H1 := [_, _, _])
end Go.Proofs.YtmljgobenlpnfaaGreat
end

section
namespace Go.Proofs.YtmljgobenlpnfaaGreat
open Go.Free Go.RowKit Go.Proofs Go.Free.Sorts
set_option maxHeartbeats 4000000
theorem vv_range {M : List EvV} (h : Chain M) : ∀ i, 0 ≤ vvOf M i ∧ vvOf M i ≤ 1048576 := by
  have key : ∀ j, j ≤ M.length → ∀ i, 0 ≤ vvOf (M.take j) i ∧ vvOf (M.take j) i ≤ 1048576 := by
    intro j
    induction j with
    | zero => intro _ i; rw [List.take_zero]; exact ⟨Int.le_refl 0, show (0 : Int) ≤ 1048576 by decide⟩
    | succ j ih =>
      intro hj i
      have h1 := ih (by omega) i
      rw [List.take_succ_eq_append_getElem (show j < M.length by omega), vv_snoc]
      have h2 := (h j (by omega)).1.1
      dsimp only
      split
      · exact ⟨by have := h2.2.2.1; omega, h2.2.2.2⟩
      · exact h1
  have := key M.length (Nat.le_refl _)
  rwa [List.take_length] at this
theorem ready_congr {v w : Nat → Int} (hvw : ∀ i, i < 16 → v i = w i) (e : EvV) : readyP v e ↔ readyP w e := by
  unfold readyP
  constructor
  · rintro ⟨h1, h2, h3⟩
    have hr : e.r.toNat < 16 := by have := h1.1.1; have := h1.1.2.1; omega
    exact ⟨h1, by rw [← hvw _ hr]; exact h2, fun i hi => by rw [← hvw i hi]; exact h3 i hi⟩
  · rintro ⟨h1, h2, h3⟩
    have hr : e.r.toNat < 16 := by have := h1.1.1; have := h1.1.2.1; omega
    exact ⟨h1, by rw [hvw _ hr]; exact h2, fun i hi => by rw [hvw i hi]; exact h3 i hi⟩
structure SpOk (M : List EvV) (S : SpV) : Prop where
  wf : SpWf S
  v : ∀ i, i < 16 → S.v i = vvOf M i
  chain : Chain M
  ok : ∀ e ∈ M, e.okV
  live : ∀ k, LiveOk M k (liveAt S.ks k)
  dead : ∀ k, DeadOk M k (deadAt S.ks k)
  llen : ∀ k, (liveAt S.ks k).length ≤ M.length
  dlen : ∀ k, (deadAt S.ks k).length ≤ M.length * M.length
theorem spok0 : SpOk [] sp0 := ⟨sp0_wf, fun _ _ => rfl, chain_nil, fun e he => (by cases he), fun k => live_nil k, fun k => dead_nil k, fun k => Nat.le_refl _, fun k => Nat.le_refl _⟩
theorem SpOk.right {M : List EvV} {S : SpV} (h : SpOk M S) : rightVP S.v := fun i hi => by rw [h.v i hi]; exact vv_range h.chain i
theorem SpOk.step {M : List EvV} {S S' : SpV} {e : EvV} (h : SpOk M S) (hr : readyP S.v e) (he : e.okV) (ha : Applied S e S') : SpOk (M ++ [e]) S' := by
  have hr' := (ready_congr h.v e).1 hr
  have hc := chain_snoc h.chain hr'
  refine ⟨ha.wf, fun i hi => ?_, hc, fun x hx => ?_, fun k => ?_, fun k => ?_, fun k => ?_, fun k => ?_⟩
  · rw [ha.v, vv_snoc]
    unfold putV2 dotOf
    dsimp only
    rw [h.v i hi]
  · rcases List.mem_append.1 hx with hx | hx
    · exact h.ok x hx
    · rw [List.mem_singleton.1 hx]; exact he
  · by_cases hk : k = e.key
    · subst hk; rw [ha.live]; exact live_step hc (h.live _)
    · rw [(ha.other k hk).1]; exact live_other hk (h.live k)
  · by_cases hk : k = e.key
    · subst hk; rw [ha.dead]; exact dead_step hc (h.live _) (h.dead _)
    · rw [(ha.other k hk).2]; exact dead_other hk (h.dead k)
  · rw [List.length_append, List.length_singleton]
    by_cases hk : k = e.key
    · subst hk
      rw [ha.live]
      have h1 := h.llen e.key
      have h2 := liveF_len e (liveAt S.ks e.key) (liveAt S.ks e.key)
      unfold applyL
      split
      · have := len_put_le (liveF e (liveAt S.ks e.key) (liveAt S.ks e.key)) (dotOf e) e
        omega
      · omega
    · rw [(ha.other k hk).1]; have := h.llen k; omega
  · rw [List.length_append, List.length_singleton]
    have h3 : (M.length + 1) * (M.length + 1) = M.length * M.length + M.length + M.length + 1 := by
      rw [Nat.add_mul, Nat.mul_add]; omega
    by_cases hk : k = e.key
    · subst hk
      rw [ha.dead]
      have h1 := h.llen e.key
      have h2 := deadF_len e (liveAt S.ks e.key) (deadAt S.ks e.key)
      have h4 := h.dlen e.key
      omega
    · rw [(ha.other k hk).2]; have := h.dlen k; omega
theorem SpOk.len {M : List EvV} {S : SpV} (h : SpOk M S) (hl : M.length ≤ 60) (k : List UInt8) : (liveAt S.ks k).length ≤ 60 ∧ (deadAt S.ks k).length ≤ 3600 := by
  have h1 := h.llen k
  have h2 := h.dlen k
  have h3 : M.length * M.length ≤ 60 * 60 := Nat.mul_le_mul hl hl
  omega
theorem SpOk.ents {M : List EvV} {S : SpV} (h : SpOk M S) (hl : M.length ≤ 60) : ∀ x ∈ S.ks, x.l.length ≤ 60 ∧ x.dd.length ≤ 3600 := fun x hx => by
  obtain ⟨j, hj, hjx⟩ := List.getElem_of_mem hx
  have hj? : S.ks[j]? = some x := by rw [List.getElem?_eq_getElem hj, hjx]
  have := h.len hl x.key
  rw [live_in h.wf.nd hj?, dead_in h.wf.nd hj?] at this
  exact this
theorem SpOk.liveOk {M : List EvV} {S : SpV} (h : SpOk M S) (k : List UInt8) : ∀ e ∈ evsB (liveAt S.ks k), e.okV := fun e he => h.ok e ((bag_mem (h.live k)).1 he).1
theorem SpOk.deadOk {M : List EvV} {S : SpV} (h : SpOk M S) (k : List UInt8) : ∀ e ∈ evsT (deadAt S.ks k), e.okV := fun e he => by
  unfold evsT at he
  obtain ⟨⟨d, x, b⟩, hx, rfl⟩ := List.mem_map.1 he
  exact h.ok x (((h.dead k).mem d x).1 ⟨b, hx⟩).1
theorem SpOk.unlike {M : List EvV} {S : SpV} (h : SpOk M S) : unlikeM M := chain_unlike h.chain
theorem SpOk.type {M : List EvV} {S : SpV} (h : SpOk M S) (k : List UInt8) : typeM (evsB (liveAt S.ks k)) k = typeM M k := bag_type h.unlike (h.live k)
theorem ends_node {a b : EvV} (h9 : a.kind = 9) : endsG b a ↔ endsP b a := by
  unfold endsG endsP
  refine and_congr_right fun _ => and_congr_right fun _ => ?_
  have ha : addP a.kind := by rw [h9]; decide
  by_cases h11 : b.kind = 11
  · rw [if_pos h11]; exact ⟨fun _ => .inl h11, fun _ => ha⟩
  rw [if_neg h11]
  by_cases h1 : b.kind = 1
  · rw [if_pos h1, h9]
    constructor
    · intro h; exact absurd h (by decide)
    · rintro (h | ⟨h, _⟩)
      · exact absurd h h11
      · rw [h1] at h; exact absurd h (by decide)
  rw [if_neg h1]
  by_cases h10 : b.kind = 10
  · rw [if_pos h10]
    constructor
    · rintro ⟨_, h2, h3⟩; exact .inr ⟨h10, h2, h3⟩
    · rintro (h | ⟨_, h2, h3⟩)
      · exact absurd h h11
      · exact ⟨h9, h2, h3⟩
  rw [if_neg h10]
  constructor
  · rintro ⟨h2, _⟩
    exfalso
    rw [h9] at h2
    unfold wantP at h2
    split at h2
    · exact absurd h2 (by decide)
    · split at h2
      · exact absurd h2 (by decide)
      · split at h2 <;> exact absurd h2 (by decide)
  · rintro (h | ⟨h, _⟩)
    · exact absurd h h11
    · exact absurd h h10
theorem SpOk.ofs {M : List EvV} {S : SpV} (h : SpOk M S) (k : List UInt8) (ht : typeM M k = 6) : ofS (evsB (liveAt S.ks k)) k 6 = ofM (evsB (liveAt S.ks k)) k ∧ ofM (evsB (liveAt S.ks k)) k ≠ [] := by
  have hty := h.type k
  rw [ht] at hty
  refine ⟨if_pos hty, fun he => ?_⟩
  have h1 := hty
  unfold typeM typeV at h1
  cases hl : (liveK (evsB (liveAt S.ks k)) k).getLast? with
  | none => rw [hl] at h1; exact absurd h1 (by decide)
  | some e =>
    rw [hl] at h1
    have hm : e ∈ ofM (evsB (liveAt S.ks k)) k := by
      unfold ofM
      rw [List.mem_filter, decide_eq_true_eq, hty]
      exact ⟨List.mem_of_getLast? hl, h1⟩
    rw [he] at hm; cases hm
theorem SpOk.items {M : List EvV} {S : SpV} (h : SpOk M S) (k : List UInt8) (ht : typeM M k = 6) : itemsS S.ks k = itemsM k M := by
  obtain ⟨h1, h2⟩ := h.ofs k ht
  have hu := h.unlike
  unfold itemsS
  rw [h1, if_neg h2, list_order hu (h.live k) (h.dead k) ht]
  unfold itemsM keepE
  refine List.filter_congr fun a ha => ?_
  obtain ⟨haM, ha9, hak⟩ := order_node a ha
  congr 1
  rw [Bool.eq_iff_iff]
  have hlv : hereD (liveAt S.ks k) (dotOf a) = true ↔ livesP M a := by
    rw [here_mem (h.live k).sorted]
    constructor
    · rintro ⟨x, hx⟩
      obtain ⟨q1, q2, q3, q4⟩ := ((h.live k).mem _ x).1 hx
      have := unlike_ltE hu haM q1 q4
      rw [this]; exact q3
    · intro hl
      exact ⟨a, ((h.live k).mem _ a).2 ⟨haM, hak, hl, rfl⟩⟩
  have hen : endedB M a = true ↔ ¬ livesP M a := by
    unfold endedB livesP
    rw [List.any_eq_true]
    have hadd : addP a.kind := by rw [ha9]; decide
    constructor
    · rintro ⟨b, hb, he⟩ ⟨_, hq⟩
      exact hq b hb ((ends_node ha9).2 (of_decide_eq_true he))
    · intro hq
      refine Classical.byContradiction fun hno => hq ⟨hadd, fun b hb he => hno ⟨b, hb, decide_eq_true ((ends_node ha9).1 he)⟩⟩
  rw [hen, ← hlv]
  dsimp only
  cases hereD (liveAt S.ks k) (dotOf a) <;> simp
end Go.Proofs.YtmljgobenlpnfaaGreat
end

section
namespace Go.Free
open Go.RowKit
section
variable {P : Program} {ops : Array Oper} {n : Nat} {I : World → Prop} {Q : Exit → Act → World → Prop} {E : Env}
theorem put_put {a : Act} {d : Nat} {e : Option Nat} {v x : Value} (h : e ≠ some d) : (a.put (some d) v).put e x = (a.put e x).put (some d) v := by
  cases e with
  | none => rfl
  | some e =>
    have hne : d ≠ e := fun h2 => h (by rw [h2])
    simp [Act.put, Array.setIfInBounds_comm _ _ hne]
theorem defer_put {a : Act} {d : Nat} {e : Option Nat} {v x : Value} {df : Deferred} (h : e ≠ some d) : ({ (a.put (some d) v) with defers := df :: (a.put (some d) v).defers }.put e x) = ({ a with defers := df :: a.defers }.put e x).put (some d) v := by
  cases e with
  | none => rfl
  | some e =>
    have hne : d ≠ e := fun h2 => h (by rw [h2])
    simp [Act.put, Array.setIfInBounds_comm _ _ hne]
theorem wpOp_put (ht : tidy ops n = true) {j d : Nat} {v : Value} {K : Act → World → Prop} {a : Act} {w : World} (h1 : d ∉ looks ops j) (h2 : dst ops j ≠ some d) (hQ : ∀ c a b w, Q (.panic c) a w → Q (.panic c) b w)
    (h : wpOp P ops Q j K (a.put (some d) v) w) : wpOp P ops Q j (fun a' w' => K (a'.put (some d) v) w') a w := by
  unfold wpOp at *
  cases ho : ops[j]? with
  | none => rw [ho] at h; exact h
  | some o =>
    have hl : d ∉ o.looksAt ops := by simpa [looks, ho] using h1
    have hd : o.dst ≠ some d := by simpa [dst, ho] using h2
    rw [ho] at h
    simp only at h ⊢
    rw [wanted_put o a (some d) v (fun d' e => by cases e; exact hl)] at h
    split
    · rename_i hw
      simp only [hw, if_true] at h
      rcases h with h | h
      · refine .inl ?_
        unfold Oper.wp at *
        rw [execOp_put o (no_select ht ho) a (some d) v (fun d' e => by cases e; exact hl)] at h
        generalize (execOp a.eval o).run P w = r at *
        cases r with
        | ok x w' =>
          cases x <;> simp only [Oper.upon] at h ⊢
          case value x => rw [← put_put hd]; exact h
          case skip => rw [← put_put hd]; exact h
          case defer df => rw [← defer_put hd]; exact h
          case enter f args =>
            refine Calls.mono h (fun e w'' he => ?_)
            cases e with
            | returned x => show K ((a.put o.dst x).put (some d) v) w''; rw [← put_put hd]; exact he
            | panicked c => exact hQ _ _ _ _ he
            | outgrown => exact he
          case row row args => exact Rows.mono h (fun x w'' he => by rw [← put_put hd]; exact he)
        | halt x w' =>
          cases x <;> simp only [Oper.upon] at h ⊢
          exact hQ _ _ _ _ h
      · refine .inr ⟨?_, h.2⟩
        have h3 := h.1
        unfold Oper.asks at *
        rw [execOp_put o (no_select ht ho) a (some d) v (fun d' e => by cases e; exact hl)] at h3
        exact h3
    · rename_i hw
      simp only [hw] at h
      rw [← put_put hd]; exact h
def Takes (P : Program) (ops : Array Oper) (i : Nat) (v : Value) (a : Act) : Prop := ∃ o, ops[i]? = some o ∧ o.guard = none ∧ ∀ w, (execOp a.eval o).run P w = .ok (.value v) w
theorem Takes.put (ht : tidy ops n = true) {i : Nat} {v x : Value} {a : Act} {e : Option Nat} (h : Takes P ops i v a) (he : ∀ d, e = some d → d ∉ looks ops i) : Takes P ops i v (a.put e x) := by
  obtain ⟨o, ho, hg, h⟩ := h
  refine ⟨o, ho, hg, fun w => ?_⟩
  rw [execOp_put (ops := ops) o (no_select ht ho) a e x (fun d hd => by have := he d hd; simpa [looks, ho] using this)]
  exact h w
theorem wpOp_and {i : Nat} {K K' : Act → World → Prop} {a : Act} {w : World} (h : wpOp P ops Q i K a w) (hk : ∀ a' w', K a' w' → (∃ x, a' = a.put (dst ops i) x) ∨ (∃ (df : Deferred), a' = { a with defers := df :: a.defers }.put (dst ops i) undef) → K' a' w') : wpOp P ops Q i K' a w := by
  unfold wpOp at *
  cases ho : ops[i]? with
  | none => rw [ho] at h; exact hk _ _ h (.inl ⟨undef, by simp [dst, ho, Act.put]⟩)
  | some o =>
    rw [ho] at h
    have hdst : dst ops i = o.dst := by simp [dst, ho]
    simp only at h ⊢
    split
    · rename_i hw
      simp only [hw, if_true] at h
      rcases h with h | h
      · refine .inl ?_
        unfold Oper.wp at *
        generalize (execOp a.eval o).run P w = r at *
        cases r with
        | ok x w' =>
          cases x <;> simp only [Oper.upon] at h ⊢
          case value x => exact hk _ _ h (.inl ⟨x, by rw [hdst]⟩)
          case skip => exact hk _ _ h (.inl ⟨undef, by rw [hdst]⟩)
          case defer df => exact hk _ _ h (.inr ⟨df, by rw [hdst]⟩)
          case enter f args =>
            refine Calls.mono h (fun e w'' he => ?_)
            cases e with
            | returned x => exact hk _ _ he (.inl ⟨x, by rw [hdst]⟩)
            | panicked c => exact he
            | outgrown => exact he
          case row row args => exact Rows.mono h (fun x w'' he => hk _ _ he (.inl ⟨x, by rw [hdst]⟩))
        | halt x w' => cases x <;> simp only [Oper.upon] at h ⊢; exact h
      · exact .inr h
    · rename_i hw
      simp only [hw] at h
      exact hk _ _ h (.inl ⟨undef, by rw [hdst]⟩)
theorem Takes.defer {i : Nat} {v : Value} {a : Act} {df : List Deferred} (h : Takes P ops i v a) : Takes P ops i v { a with defers := df } := h
theorem wpAny_first (ht : tidy ops n = true) (hQ : ∀ c a b w, Q (.panic c) a w → Q (.panic c) b w) {i d : Nat} {v : Value} (hd : dst ops i = some d) :
    ∀ (fuel : Nat) (listed : Array Bool) (a : Act) (w : World), listed.size = ops.size → closed ops (fun j => listed.getD j false = true) → i ∈ Region.ready .any ops listed → Takes P ops i v a →
      wpAny P .any ops Q fuel (listed.setIfInBounds i true) (a.put (some d) v) w → wpAny P .any ops Q (fuel + 1) listed a w := by
  intro fuel
  induction fuel with
  | zero =>
    intro listed a w hs hc hi hT h
    refine ⟨fun e => (by rw [e] at hi; cases hi), fun j hj => ?_⟩
    by_cases hji : j = i
    · subst hji
      obtain ⟨o, ho, hg, hr⟩ := hT
      have hod : o.dst = some d := by simpa [dst, ho] using hd
      unfold wpOp
      rw [ho]
      simp only [Region.wanted, hg, if_true]
      refine .inl ?_
      unfold Oper.wp
      rw [hr]
      simp only [Oper.upon, hod]
      exact h
    · exfalso
      obtain ⟨h1, o, ho, h2⟩ := mem_ready.1 hj
      have hj2 : j ∈ Region.ready .any ops (listed.setIfInBounds i true) := by
        refine mem_ready.2 ⟨?_, o, ho, fun e he hb => getD_set_true (h2 e he hb)⟩
        rw [getD_set_ne true (Ne.symm hji)]; exact h1
      rw [h.1] at hj2; cases hj2
  | succ fuel ih =>
    intro listed a w hs hc hi hT h
    refine ⟨fun e => (by rw [e] at hi; cases hi), fun j hj => ?_⟩
    by_cases hji : j = i
    · subst hji
      obtain ⟨o, ho, hg, hr⟩ := hT
      have hod : o.dst = some d := by simpa [dst, ho] using hd
      unfold wpOp
      rw [ho]
      simp only [Region.wanted, hg, if_true]
      refine .inl ?_
      unfold Oper.wp
      rw [hr]
      simp only [Oper.upon, hod]
      exact h
    obtain ⟨h1, o, ho, h2⟩ := mem_ready.1 hj
    obtain ⟨h3, oi, hoi, h4⟩ := mem_ready.1 hi
    have hjl : j < ops.size := (Array.getElem?_eq_some_iff.1 ho).1
    have hil : i < ops.size := (Array.getElem?_eq_some_iff.1 hoi).1
    have hj2 : j ∈ Region.ready .any ops (listed.setIfInBounds i true) := by
      refine mem_ready.2 ⟨?_, o, ho, fun e he hb => getD_set_true (h2 e he hb)⟩
      rw [getD_set_ne true (Ne.symm hji)]; exact h1
    have hnl : ∀ {m : Nat}, m < ops.size → listed.getD m true = false → listed.getD m false = false := fun {m} hm he => by
      have : m < listed.size := by omega
      simpa [Array.getD, this] using he
    have hno : ordB ops i j = false := by
      cases hob : ordB ops i j with
      | false => rfl
      | true =>
        exfalso
        unfold ordB at hob
        rcases Nat.lt_or_gt_of_ne hji with hlt | hlt
        · rw [Nat.max_eq_left (by omega), Nat.min_eq_right (by omega)] at hob
          have := ready_before ht hc hi hob
          rw [hnl hjl h1] at this; cases this
        · rw [Nat.max_eq_right (by omega), Nat.min_eq_left (by omega)] at hob
          have := ready_before ht hc hj hob
          rw [hnl hil h3] at this; cases this
    have hlk : d ∉ looks ops j := fun hm => by
      have := tidy_order ht hjl (.inl hm) hd hji
      have h5 : ordB ops j i = true := this
      rw [ordB_comm, hno] at h5; cases h5
    have hdj : dst ops j ≠ some d := fun hm => by
      have := tidy_order ht hjl (.inr hm) hd hji
      have h5 : ordB ops j i = true := this
      rw [ordB_comm, hno] at h5; cases h5
    have hli : ∀ e, dst ops j = some e → e ∉ looks ops i := fun e he hm => by
      have := tidy_order ht hil (.inl hm) he (Ne.symm hji)
      have h5 : ordB ops i j = true := this
      rw [hno] at h5; cases h5
    have h6 := wpOp_put ht hlk hdj hQ (h.2 j hj2)
    refine wpOp_and h6 fun a' w' hk ha' => ?_
    have hT' : Takes P ops i v a' := by
      rcases ha' with ⟨x, rfl⟩ | ⟨df, rfl⟩
      · exact hT.put ht hli
      · exact Takes.put ht hT.defer hli
    have hi2 : i ∈ Region.ready .any ops (listed.setIfInBounds j true) := by
      refine mem_ready.2 ⟨?_, oi, hoi, fun e he hb => getD_set_true (h4 e he hb)⟩
      rw [getD_set_ne true hji]; exact h3
    refine ih _ a' w' (by simp [hs]) (closed_next hc hj) hi2 hT' ?_
    rw [Array.setIfInBounds_comm _ _ hji]
    exact hk
theorem D.first {fuel d : Nat} {listed : Array Bool} {v : Value} (i : Nat) (hr : (Region.ready .any ops listed).contains i = true) (hs : listed.size = ops.size) (hc : (List.range ops.size).all (fun j => !listed.getD j false || ((ops[j]?).map (fun o => o.after.all fun e => !Region.binds .any e || listed.getD e.on false)).getD true) = true) (ht : tidy ops n = true) (hQ : ∀ c a b w, Q (.panic c) a w → Q (.panic c) b w) (hd : dst ops i = some d)
    (hT : ∀ a w, Sh n a → Sat E a w → Takes P ops i v a) (h : D P ops Q n I fuel (listed.setIfInBounds i true) ((d, .ex v) :: E)) : D P ops Q n I (fuel + 1) listed E := by
  intro a w h1 h2 h3
  refine wpAny_first ht hQ hd fuel listed a w hs ?_ (by simpa using hr) (hT a w h2 h3) (h _ w h1 (h2.put _ _) fun t f hf => ?_)
  · intro j o ho hL e he hb
    have hjl : j < ops.size := (Array.getElem?_eq_some_iff.1 ho).1
    have h4 := List.all_eq_true.1 hc j (List.mem_range.2 hjl)
    rw [ho] at h4
    simp only [hL, Bool.not_true, Bool.false_or, Option.map_some, Option.getD_some] at h4
    have h5 := Array.all_eq_true_iff_forall_mem.1 h4 e he
    simpa [hb] using h5
  · simp only [look] at hf
    by_cases hdt : d = t
    · subst hdt
      rw [if_pos rfl] at hf; cases hf
      rw [slot_put_same h2 (tidy_dst ht hd)]
      simp [Fa.den]
    · rw [if_neg hdt] at hf
      rw [slot_put_ne a hdt]; exact h3 t f hf
theorem D.weak {fuel : Nat} {listed : Array Bool} {E' : Env} (h : Weak I E E') (hD : D P ops Q n I fuel listed E') : D P ops Q n I fuel listed E := fun a w h1 h2 h3 => hD a w h1 h2 (h.sat h1 h3)
abbrev readyB (ops : Array Oper) (listed : Array Bool) (i : Nat) : Bool := (Region.ready .any ops listed).contains i
abbrev closedB (ops : Array Oper) (listed : Array Bool) : Bool := (List.range ops.size).all (fun j => !listed.getD j false || ((ops[j]?).map (fun o => o.after.all fun e => !Region.binds .any e || listed.getD e.on false)).getD true)
theorem D.move1 {fuel d : Nat} {listed l2 : Array Bool} {v : Value} {o : Oper} {x : Operand} (i : Nat) (hr : readyB ops listed i = true) (hs : listed.size = ops.size) (hc : closedB ops listed = true) (ht : tidy ops n = true) (hQ : ∀ c a b w, Q (.panic c) a w → Q (.panic c) b w) (hl : listed.setIfInBounds i true = l2)
    (ho : ops[i]? = some o) (hd : o.dst = some d) (hg : o.guard = none) (hop : o.op = .move x) (hx : opF E x = some (.ex v)) (h : D P ops Q n I fuel l2 ((d, .ex v) :: E)) : D P ops Q n I (fuel + 1) listed E :=
  D.first (d := d) (v := v) i hr hs hc ht hQ (by simp [dst, ho, hd]) (fun a w _ hsat => ⟨o, ho, hg, fun w2 => by
    have e1 := opF_den (a := a) (w := w) ho (by simp [hop, Op.operands]) (fun t _ f hf => hsat t f hf) hx
    simp only [Fa.den] at e1
    simp [execOp, hop, e1]⟩) (by rw [hl]; exact h)
theorem D.nil1 {fuel d : Nat} {listed l2 : Array Bool} {ad : Addr} {o : Oper} {x : Operand} (i : Nat) (hr : readyB ops listed i = true) (hs : listed.size = ops.size) (hc : closedB ops listed = true) (ht : tidy ops n = true) (hQ : ∀ c a b w, Q (.panic c) a w → Q (.panic c) b w) (hl : listed.setIfInBounds i true = l2)
    (ho : ops[i]? = some o) (hd : o.dst = some d) (hg : o.guard = none) (hop : o.op = .nilCheck x) (hx : opF E x = some (.ex (.pointer (some ad)))) (h : D P ops Q n I fuel l2 ((d, .ex (.pointer (some ad))) :: E)) : D P ops Q n I (fuel + 1) listed E :=
  D.first (d := d) (v := .pointer (some ad)) i hr hs hc ht hQ (by simp [dst, ho, hd]) (fun a w _ hsat => ⟨o, ho, hg, fun w2 => by
    have e1 := opF_den (a := a) (w := w) ho (by simp [hop, Op.operands]) (fun t _ f hf => hsat t f hf) hx
    simp only [Fa.den] at e1
    simp [execOp, hop, e1]⟩) (by rw [hl]; exact h)
theorem D.extract1 {fuel d j : Nat} {listed l2 : Array Bool} {vs : Array Value} {v : Value} {o : Oper} {x : Operand} (i : Nat) (hr : readyB ops listed i = true) (hs : listed.size = ops.size) (hc : closedB ops listed = true) (ht : tidy ops n = true) (hQ : ∀ c a b w, Q (.panic c) a w → Q (.panic c) b w) (hl : listed.setIfInBounds i true = l2)
    (ho : ops[i]? = some o) (hd : o.dst = some d) (hg : o.guard = none) (hop : o.op = .extract x j) (hx : opF E x = some (.ex (.tuple vs))) (hv : vs[j]? = some v) (h : D P ops Q n I fuel l2 ((d, .ex v) :: E)) : D P ops Q n I (fuel + 1) listed E :=
  D.first (d := d) (v := v) i hr hs hc ht hQ (by simp [dst, ho, hd]) (fun a w _ hsat => ⟨o, ho, hg, fun w2 => by
    have e1 := opF_den (a := a) (w := w) ho (by simp [hop, Op.operands]) (fun t _ f hf => hsat t f hf) hx
    simp only [Fa.den] at e1
    simp [execOp, hop, e1, Instr.extract, hv]⟩) (by rw [hl]; exact h)
theorem D.field1 {fuel d : Nat} {listed l2 : Array Bool} {o : Oper} {s : TypeId} {x : Operand} {β o0 f off : Nat} {fs : Array Field} {fld : Field} (i : Nat) (hr : readyB ops listed i = true) (hs : listed.size = ops.size) (hc : closedB ops listed = true) (ht : tidy ops n = true) (hQ : ∀ c a b w, Q (.panic c) a w → Q (.panic c) b w) (hl : listed.setIfInBounds i true = l2)
    (ho : ops[i]? = some o) (hd : o.dst = some d) (hg : o.guard = none) (hop : o.op = .fieldAddr s x f) (hx : opF E x = some (.ex (.pointer (some ⟨β, o0, none⟩)))) (hu : P.underlying s = some (.struct fs)) (hf : fs[f]? = some fld) (hi : ((P.info? fld.type).map fun i => decide (0 < i.size)) = some true) (hoff : o0 + fld.offset = off)
    (h : D P ops Q n I fuel l2 ((d, .ex (.pointer (some ⟨β, off, none⟩))) :: E)) : D P ops Q n I (fuel + 1) listed E :=
  D.first (d := d) (v := .pointer (some ⟨β, off, none⟩)) i hr hs hc ht hQ (by simp [dst, ho, hd]) (fun a w _ hsat => ⟨o, ho, hg, fun w2 => by
    have e1 := opF_den (a := a) (w := w) ho (by simp [hop, Op.operands]) (fun t _ f hf => hsat t f hf) hx
    simp only [Fa.den] at e1
    obtain ⟨inf, hi1, hi2⟩ : ∃ inf, P.info? fld.type = some inf ∧ ¬ inf.size = 0 := by
      cases hinf : P.info? fld.type with
      | none => rw [hinf] at hi; cases hi
      | some inf => rw [hinf] at hi; exact ⟨inf, rfl, by simp at hi; omega⟩
    simp [execOp, hop, e1, Instr.fieldAt, Instr.sureAddr, run_underlying hu, hf, fieldPlace, sizeOf, typeInfo, hi1, hi2, add_at, hoff]⟩) (by rw [hl]; exact h)
theorem D.weak2 {fuel : Nat} {listed l2 : Array Bool} (E' : Env) (hl : listed = l2) (h : Weak I E E') (hD : D P ops Q n I fuel l2 E') : D P ops Q n I fuel listed E := by
  subst hl; exact D.weak h hD
theorem J.drawAt {id m : Nat} {l0 : Array Bool} (hm : P.follows .mixedOrders = true) (hI : ∀ w w', I w → Below w.heap.size w w' → I w') (hs : ops.size = m) (hl : Array.replicate m false = l0) (h : D P ops Q n I m l0 E) : J P n I (.region id ops true) Q E := by
  subst hs hl
  exact J.draw hm hI h
theorem D.later {fuel fuel2 : Nat} {listed : Array Bool} (l2 : Array Bool) (E' : Env) (h : D P ops Q n I fuel2 l2 E' → D P ops Q n I fuel listed E) (hc : D P ops Q n I fuel2 l2 E') : D P ops Q n I fuel listed E := h hc
end
end Go.Free
end

section
namespace Go.Proofs.YtmljgobenlpnfaaGreat
open Go.Free Go.RowKit Go.Proofs Go.Free.Sorts
set_option maxHeartbeats 16000000
def codeS (v : Nat → Int) (e : EvV) : Int := if rightP e then (if readyP v e then 0 else 11) else 1
abbrev apHc (σ : Nat) (mu : Option Nat) (ks : List SE) (v : Nat → Int) (t : Int) (x : SE) (R : Chunk) (α : Nat) (e : EvV) (l : List (Dt × EvV)) (dd : List (Dt × (EvV × Dt))) : List Chunk :=
  [obj σ (spCells (.map mu) v t), mapS mu ks, entC ⟨x.key, x.η, l, dd⟩, R, obj α e.enc]
def apB (F : Nat → Prop) (w0 : World) (σ : Nat) (mu : Option Nat) (ks : List SE) (v : Nat → Int) (t : Int) (x : SE) (R : Chunk) (α : Nat) (e : EvV) (Bi : Option Addr) (ci : Nat) (l : List (Dt × EvV)) (dd : List (Dt × (EvV × Dt))) (i : Nat) : Env :=
  [(0, .ex (ptr σ)), (3, .ex (ptr α)), (5, .ex (ptr x.η)), (29, .ex (.slice Bi x.l.length ci)), (30, .ex (vi x.l.length)), (31, .ex (vi i)), (1000, heap (fun b => F b ∨ w0.heap.size ≤ b) (apHc σ mu ks v t x R α e l dd ++ [rowLv Bi x.l ci]))]
def apA (F : Nat → Prop) (w0 : World) (σ : Nat) (mu : Option Nat) (ks : List SE) (v : Nat → Int) (t : Int) (x : SE) (R : Chunk) (α : Nat) (e : EvV) (Bi : Option Addr) (ci : Nat) (i : Nat) : Env :=
  apB F w0 σ mu ks v t x R α e Bi ci (liveF e (x.l.take i) x.l) (deadF e (x.l.take i) x.dd) i
theorem apply_fn (σ : Nat) (S : SpV) (hw : SpWf S) (hv : rightVP S.v) (e : EvV) (he : e.okV) (hok : ∀ a ∈ evsB (liveAt S.ks e.key), a.okV) (hs : sortedD (liveAt S.ks e.key)) (hsd : sortedD (deadAt S.ks e.key)) (hln : (liveAt S.ks e.key).length ≤ 100000) (hlnd : (deadAt S.ks e.key).length ≤ 100000) :
    SpcC Tryz.prog 7 [.ex (ptr σ), .ex (aggE e)] (spC σ S) (fun S' : SpV => if readyP S.v e then Applied S e S' else S' = S) (fun _ => .ex (vi (codeS S.v e))) (fun S' => spC σ S') := by
  refine SpcC.intro Tryz.func7 rfl (Nat.le_of_ble_eq_true rfl) fun w0 F => ?_
  have hI := kept_below F w0
  have hA := Own.kept F w0
  refine J.open1 (key := 1000) rfl ?_
  refine J.seq (J.region mixed hI (by kernel_rfl) ?_)
  refine Plan.boxC (key := 1000) rfl rfl rfl (by intro _ e; cases e; decide) rfl rfl hA fun α => ?_
  repeat (refine Plan.assign rfl rfl rfl rfl ?_)
  refine J.seq (J.block ?_)
  refine J.seq (J.region mixed hI (by kernel_rfl) ?_)
  repeat (first | refine Plan.move rfl rfl rfl rfl ?_ | refine Plan.eqlPtr rfl rfl rfl rfl (by kernel_rfl) ?_)
  refine Plan.loadAggC (key := 1000) (q := 3) (vs := e.enc) rfl rfl rfl rfl rfl rfl obj_whole Tryz.underlying40 rfl (by rw [encE]; kernel_rfl) (by decide) ?_
  refine Plan.call (B := 0) rfl rfl rfl (right_fn e he) Tryz.func24 rfl rfl (fun _ _ => Nat.zero_le _) (by repeat (first | exact Opnds.nil | refine Opnds.cons rfl (by exact Sub.refl _) ?_)) ?_
  by_cases hR : rightP e
  case neg =>
    have hnr : ¬ readyP S.v e := fun h => hR h.1
    have hc : codeS S.v e = 1 := if_neg hR
    rw [hc]
    refine Plan.boolv (y := false) (decide_eq_false hR) ?_
    repeat (first | refine Plan.assign rfl rfl rfl rfl ?_ | refine Plan.pick rfl rfl rfl rfl rfl ?_ | refine Plan.un rfl rfl rfl rfl rfl ?_)
    refine J.condT rfl ?_
    refine J.seq (J.region mixed hI (by kernel_rfl) ?_)
    repeat (refine Plan.assign rfl rfl rfl rfl ?_)
    exact J.ret (Nrm.retC1 (key := 1000) S rfl rfl rfl (by rw [if_neg hnr]) (Sub.refl _) (Ent.trans (Ent.splitC (H1 := [_, _, _])) Ent.left))
  case pos =>
  refine Plan.boolv (y := true) (decide_eq_true hR) ?_
  repeat (first | refine Plan.assign rfl rfl rfl rfl ?_ | refine Plan.pick rfl rfl rfl rfl rfl ?_ | refine Plan.un rfl rfl rfl rfl rfl ?_)
  refine J.condF rfl ?_
  refine J.seq (J.region mixed hI (by kernel_rfl) ?_)
  repeat (refine Plan.move rfl rfl rfl rfl ?_)
  refine Plan.loadAggC (key := 1000) (q := 3) (vs := e.enc) rfl rfl rfl rfl rfl rfl obj_whole Tryz.underlying40 rfl (by rw [encE]; kernel_rfl) (by decide) ?_
  refine Plan.callR (key := 1000) (B := 0) (q := 0) rfl rfl rfl (ready_fn σ (.map S.mu) S.v S.t hv e he hR) Tryz.func25 rfl rfl (fun _ _ => Nat.zero_le _) (by repeat (first | exact Opnds.nil | refine Opnds.cons rfl (by exact Sub.refl _) ?_)) rfl rfl (by decide) ?_
  by_cases hY : readyP S.v e
  case neg =>
    have hc : codeS S.v e = 11 := by unfold codeS; rw [if_pos hR, if_neg hY]
    rw [hc]
    refine Plan.boolv (y := false) (decide_eq_false hY) ?_
    repeat (first | refine Plan.assign rfl rfl rfl rfl ?_ | refine Plan.un rfl rfl rfl rfl rfl ?_)
    refine J.condT rfl ?_
    refine J.seq (J.region mixed hI (by kernel_rfl) ?_)
    repeat (refine Plan.assign rfl rfl rfl rfl ?_)
    exact J.ret (Nrm.retC1 (key := 1000) S rfl rfl rfl (by rw [if_neg hY]) (Sub.refl _) (Ent.trans (Ent.splitC (H1 := [_, _, _])) Ent.left))
  case pos =>
  have hc : codeS S.v e = 0 := by unfold codeS; rw [if_pos hR, if_pos hY]
  rw [hc]
  refine Plan.boolv (y := true) (decide_eq_true hY) ?_
  repeat (first | refine Plan.assign rfl rfl rfl rfl ?_ | refine Plan.un rfl rfl rfl rfl rfl ?_)
  refine J.condF rfl ?_
  refine J.skip ?_
  refine J.regroup (key := 1000) [spC σ S, obj α e.enc] rfl (Ent.splitC (H1 := spH σ S.mu S.ks S.v S.t)) ?_
  refine J.seq (J.region mixed hI (by kernel_rfl) ?_)
  repeat (first | refine Plan.move rfl rfl rfl rfl ?_ | refine Plan.fieldC rfl rfl rfl rfl (by first | exact Tryz.underlying58 | exact Tryz.underlying40 | exact Tryz.underlying38) rfl (by kernel_rfl) (by first | exact (rfl : _ = 19) | exact (rfl : _ = 20)) ?_ | refine Plan.loadC (key := 1000) (q := 1) rfl rfl rfl rfl rfl rfl (obj_reads1 rfl) (by first | exact Tryz.underlying3 | exact Tryz.underlying9) (by rfl) (by decide) ?_)
  refine Plan.callC (key := 1000) (q := 0) rfl rfl rfl (at_fn σ S hw e.key) Tryz.func26 rfl rfl (by intro _ e; cases e; decide) (by repeat (first | exact Opnds.nil | refine Opnds.cons rfl (by exact Sub.refl _) ?_)) rfl hA rfl ?_
  rintro ⟨μ, η⟩ _
  obtain ⟨j, x, hj, hxk⟩ := has_key (at_mem S.ks e.key η)
  have hnd := at_nodup hw.nd e.key η
  have hm := sp_in hnd hj (.pointer none)
  rw [hxk] at hm
  have hjl := (List.getElem?_eq_some_iff.1 hj).1
  have hxl : liveAt S.ks e.key = x.l := by rw [← (at_live S.ks e.key η e.key).1]; have := live_in hnd hj; rwa [hxk] at this
  have hxd : deadAt S.ks e.key = x.dd := by rw [← (at_live S.ks e.key η e.key).2]; have := dead_in hnd hj; rwa [hxk] at this
  have hap := fun t => applied_of (t := t) (μ := S.mu.getD μ) hw hj hxk
  obtain ⟨ks, hks⟩ : ∃ ks, ks = atK S.ks e.key η := ⟨_, rfl⟩
  obtain ⟨mu, hmu⟩ : ∃ mu, mu = some (S.mu.getD μ) := ⟨_, rfl⟩
  rw [hxl] at hok hs hln
  rw [hxd] at hsd hlnd
  dsimp only
  rw [hm]
  repeat (refine Plan.assign rfl rfl rfl rfl ?_)
  refine J.regroup (key := 1000) [obj σ (spCells (.map mu) S.v S.t), mapS mu ks, allC (ks.map entC), obj α e.enc] rfl (by rw [hmu, hks]; exact Ent.joinC (H1 := [_, _, _])) ?_
  rw [← hks] at hj hjl hap
  refine J.openE (key := 1000) hj rfl fun B1 n1 B2 n2 => ?_
  obtain ⟨R, hRR⟩ : ∃ R, R = allC ((ks.map entC).eraseIdx j) := ⟨_, rfl⟩
  rw [← hRR]
  refine J.seq (J.seq (J.region mixed hI (by kernel_rfl) ?_))
  repeat (first | refine Plan.move rfl rfl rfl rfl ?_ | refine Plan.nilOk rfl rfl rfl rfl ?_ | refine Plan.fieldC rfl rfl rfl rfl (by first | exact Tryz.underlying58 | exact Tryz.underlying77) rfl (by kernel_rfl) (by exact (rfl : _ = 0)) ?_)
  refine Plan.callRO (key := 1000) rfl rfl rfl (items_fnL x.η (.slice B2 x.dd.length n2) x.l (by omega)) (fun _ => rfl) Tryz.func27 rfl rfl (by intro _ e; cases e; decide) (by repeat (first | exact Opnds.nil | refine Opnds.cons rfl (by exact Sub.refl _) ?_)) rfl hA ((Ent.pickC [2, 3] rfl rfl).trans bag_closeL) fun Bi m ci hmi => ?_
  obtain rfl : m = x.l.length := by rw [flat_len itLL] at hmi; omega
  refine Plan.lenE rfl rfl rfl rfl Tryz.underlying70 ?_
  repeat (refine Plan.move rfl rfl rfl rfl ?_)
  refine J.regroup (key := 1000) (apHc σ mu ks S.v S.t x R α e x.l x.dd ++ [rowLv Bi x.l ci]) rfl (Ent.sep (Ent.refl _) (Ent.sep (Ent.refl _) (ent_to x))) ?_
  refine J.block (J.loop (apA F w0 σ mu ks S.v S.t x R α e Bi ci) (fun i => i ≤ x.l.length) (fun i => x.l.length - i) 0 (Nat.zero_le _) ?_ ?_)
  · repeat (first | exact Weak.nil | refine Weak.cons rfl (Sub.refl _) ?_)
  intro i hi
  refine J.seq (J.region mixed hI (by kernel_rfl) ?_)
  repeat ((refine Plan.ints rfl rfl rfl rfl rfl rfl ?_; (skip)))
  refine J.seq (J.condD rfl (fun hc => ?_) (fun hc => ?_))
  · have hlt : i < x.l.length := by
      first | omega | (dsimp only at hc; omega)
    have hstl := liveF_take e (L := x.l) hlt
    have hstd := deadF_take e (D := x.dd) hlt
    obtain ⟨y, hy⟩ : ∃ y, y = x.l[i] := ⟨_, rfl⟩
    have hyx := it_at x.l hlt
    have hyo : y.2.okV := hok _ (by rw [hy]; exact List.mem_map.2 ⟨x.l[i], List.getElem_mem hlt, rfl⟩)
    rw [← hy] at hstl hstd hyx
    obtain ⟨L, hL⟩ : ∃ L, L = liveF e (x.l.take i) x.l := ⟨_, rfl⟩
    obtain ⟨T, hT⟩ : ∃ T, T = deadF e (x.l.take i) x.dd := ⟨_, rfl⟩
    have hLs : sortedD L := by rw [hL]; exact liveF_sorted e _ _ hs
    have hTs : sortedD T := by rw [hT]; exact deadF_sorted e _ _ hsd
    have hLl : L.length ≤ 100000 := by rw [hL]; exact Nat.le_trans (liveF_len e _ _) hln
    have hTl : T.length ≤ 200000 := by
      rw [hT]
      have h1 := deadF_len e (x.l.take i) x.dd
      rw [List.length_take] at h1
      omega
    change J _ _ _ _ _ (_ :: apB F w0 σ mu ks S.v S.t x R α e Bi ci (liveF e (x.l.take i) x.l) (deadF e (x.l.take i) x.dd) i)
    rw [← hL] at hstl ⊢
    rw [← hT] at hstd ⊢
    refine J.skip ?_
    refine J.tellC (key := 1000) (q := 5) rfl rfl (row_at (by rw [flat_len itLL]; omega)) ?_
    rintro ⟨g, rfl⟩
    refine J.seq (J.block ?_)
    refine J.seq (J.region mixed hI (by kernel_rfl) ?_)
    repeat (fail)
    refine Plan.indexC (off := i * 28) rfl rfl rfl rfl rfl eltItL hlt (by omega) ?_
    refine Plan.loadAggC (key := 1000) (q := 5) (off := i * 28) (vs := itL y) rfl rfl rfl rfl rfl rfl (row_reads hyx) Tryz.underlying80 rfl (by rw [itLL]; kernel_rfl) (by decide) ?_
    refine Plan.allocC (key := 1000) (z := .agg (itL it0L).toArray) rfl rfl rfl (by intro _ e; cases e; decide) (by kernel_rfl) rfl hA fun ξ => ?_
    refine Plan.storeC (key := 1000) (q := 6) (off := 0) rfl rfl rfl rfl rfl rfl (fun u hu => itOneL y u hu) (by kernel_rfl) rfl hA rfl (obj_pat (show 0 + (itL y).length ≤ (itL it0L).length by rw [itLL, itLL]; omega)) ?_
    repeat (fail)
    refine J.regroup (key := 1000) (apHc σ mu ks S.v S.t x R α e L T ++ [rowLv (some ⟨g, 0, none⟩) x.l ci, obj ξ (itL y)]) rfl (Ent.refl _) ?_
    refine J.seq (J.seq (J.region mixed hI (by kernel_rfl) ?_))
    repeat (fail)
    refine Plan.loadAggC (key := 1000) (q := 4) (vs := e.enc) rfl rfl rfl rfl rfl rfl obj_whole Tryz.underlying40 rfl (by rw [encE]; kernel_rfl) (by decide) ?_
    repeat (refine Plan.fieldC rfl rfl rfl rfl (by first | exact Tryz.underlying58 | exact Tryz.underlying80) rfl (by kernel_rfl) (by exact (rfl : _ = 2)) ?_)
    refine Plan.loadAggC (key := 1000) (q := 6) (off := 2) (vs := y.2.enc) rfl rfl rfl rfl rfl rfl (obj_reads rfl) Tryz.underlying40 rfl (by rw [encE]; kernel_rfl) (by decide) ?_
    refine Plan.call (B := 0) rfl rfl rfl (endsG_fn e y.2 he hyo) Tryz.func28 rfl rfl (fun _ _ => Nat.zero_le _) (by repeat (first | exact Opnds.nil | refine Opnds.cons rfl (by exact Sub.refl _) ?_)) ?_
    by_cases hE : endsG e y.2
    case neg =>
      rw [if_neg hE] at hstl
      rw [if_neg (fun h => hE h.1)] at hstd
      refine Plan.boolv (y := false) (decide_eq_false hE) ?_
      repeat (refine Plan.un rfl rfl rfl rfl rfl ?_)
      refine J.condT rfl ?_
      refine J.exit ?_
      refine J.region mixed hI (by kernel_rfl) ?_
      repeat (first | refine Plan.move rfl rfl rfl rfl ?_ | (refine Plan.ints rfl rfl rfl rfl rfl rfl ?_; (refine Plan.int (i64r (by omega)) ?_)))
      refine Plan.int (y := ((i + 1 : Nat) : Int)) (by omega) ?_
      repeat (fail)
      refine Nrm.next (i + 1) hlt (by omega) ?_
      unfold apA apB
      rw [hstl, hstd]
      exact (by repeat (first | exact Weak.nil | refine Weak.cons rfl (Sub.refl _) ?_ | refine Weak.cons rfl (Sub.heap (Ent.pickC [0, 1, 2, 3, 4, 5] rfl rfl)) ?_))
    case pos =>
    rw [if_pos hE] at hstl
    refine Plan.boolv (y := true) (decide_eq_true hE) ?_
    repeat (refine Plan.un rfl rfl rfl rfl rfl ?_)
    refine J.condF rfl ?_
    refine J.skip ?_
    refine J.exC (key := 1000) (q := 2) rfl rfl fun p => ?_
    refine J.regroup (key := 1000) [obj σ (spCells (.map mu) S.v S.t), mapS mu ks, bagCL x.η (.slice p.2.1 T.length p.2.2) L, rowDd p.2.1 T p.2.2, R, obj α e.enc, rowLv (some ⟨g, 0, none⟩) x.l ci, obj ξ (itL y)] rfl (Ent.sep (Ent.refl _) (Ent.sep (Ent.refl _) (ent_bagL ⟨x.key, x.η, L, T⟩))) ?_
    refine J.seq (J.region mixed hI (by kernel_rfl) ?_)
    repeat (first | refine Plan.move rfl rfl rfl rfl ?_ | refine Plan.nilOk rfl rfl rfl rfl ?_ | refine Plan.fieldC rfl rfl rfl rfl (by first | exact Tryz.underlying58 | exact Tryz.underlying80 | exact Tryz.underlying77) rfl (by kernel_rfl) (by exact (rfl : _ = 0)) ?_)
    refine Plan.loadAggC (key := 1000) (q := 7) (off := 0) (vs := [vi y.1.1, vi y.1.2]) rfl rfl rfl rfl rfl rfl (obj_reads rfl) Tryz.underlying34 rfl (by kernel_rfl) (by decide) ?_
    refine Plan.callC (key := 1000) (q := 2) rfl rfl rfl (remove_fnL x.η (.slice p.2.1 T.length p.2.2) L hLs (by omega) y.1) Tryz.func29 rfl rfl (by intro _ e; cases e; decide) (by repeat (first | exact Opnds.nil | refine Opnds.cons rfl (by exact Sub.refl _) ?_)) rfl hA rfl ?_
    intro _ _
    rw [← hstl]
    obtain ⟨L', hL'⟩ : ∃ L', L' = liveF e (x.l.take (i + 1)) x.l := ⟨_, rfl⟩
    rw [← hL']
    repeat (fail)
    refine J.exC (key := 1000) (q := 2) rfl rfl fun p1 => ?_
    refine J.seq (J.region mixed hI (by kernel_rfl) ?_)
    repeat (refine Plan.fieldC rfl rfl rfl rfl (by first | exact Tryz.underlying58 | exact Tryz.underlying40 | exact Tryz.underlying38 | exact Tryz.underlying80) rfl (by kernel_rfl) (by first | exact (rfl : _ = 2) | exact (rfl : _ = 21)) ?_)
    refine Plan.loadC (key := 1000) (q := 7) (off := 21) (v := vi y.2.kind) rfl rfl rfl rfl rfl rfl (obj_reads1 rfl) Tryz.underlying3 rfl (by decide) ?_
    repeat ((refine Plan.ints rfl rfl rfl rfl rfl rfl ?_; (skip)))
    refine J.condD rfl (fun h9 => ?_) (fun h9 => ?_)
    · rw [if_pos ⟨hE, h9⟩] at hstd
      refine J.regroup (key := 1000) [obj σ (spCells (.map mu) S.v S.t), mapS mu ks, bagCM x.η (.slice p1.1 L'.length p1.2) T, rowLv p1.1 L' p1.2, R, obj α e.enc, rowLv (some ⟨g, 0, none⟩) x.l ci, obj ξ (itL y)] rfl (Ent.sep (Ent.refl _) (Ent.sep (Ent.refl _) (ent_bagM ⟨x.key, x.η, L', T⟩))) ?_
      refine J.region mixed hI (by kernel_rfl) ?_
      repeat (first | refine Plan.move rfl rfl rfl rfl ?_ | refine Plan.nilOk rfl rfl rfl rfl ?_ | refine Plan.fieldC rfl rfl rfl rfl (by first | exact Tryz.underlying58 | exact Tryz.underlying80 | exact Tryz.underlying77) rfl (by kernel_rfl) (by first | exact (rfl : _ = 0) | exact (rfl : _ = 1)) ?_)
      refine Plan.loadAggC (key := 1000) (q := 7) (off := 0) (vs := [vi y.1.1, vi y.1.2]) rfl rfl rfl rfl rfl rfl (obj_reads rfl) Tryz.underlying34 rfl (by kernel_rfl) (by decide) ?_
      repeat (refine Plan.fieldC rfl rfl rfl rfl (by first | exact Tryz.underlying58 | exact Tryz.underlying80) rfl (by kernel_rfl) (by exact (rfl : _ = 2)) ?_)
      refine Plan.loadAggC (key := 1000) (q := 7) (off := 2) (vs := y.2.enc) rfl rfl rfl rfl rfl rfl (obj_reads rfl) Tryz.underlying40 rfl (by rw [encE]; kernel_rfl) (by decide) ?_
      repeat (refine Plan.fieldC rfl rfl rfl rfl (by first | exact Tryz.underlying58 | exact Tryz.underlying40) rfl (by kernel_rfl) (by exact (rfl : _ = 0)) ?_)
      refine Plan.loadAggC (key := 1000) (q := 5) (off := 0) (vs := [vi e.r, vi e.n]) rfl rfl rfl rfl rfl rfl (obj_reads rfl) Tryz.underlying34 rfl (by kernel_rfl) (by decide) ?_
      refine Plan.build rfl rfl rfl (Parts.cons rfl (Parts.cons rfl Parts.nil)) (cells := (encT (y.2, dotOf e)).toArray) (by kernel_rfl) ?_
      refine Plan.callC (key := 1000) (q := 2) rfl rfl rfl (put_fnM x.η (.slice p1.1 L'.length p1.2) T hTs (by omega) y.1 (y.2, dotOf e)) Tryz.func30 rfl rfl (by intro _ e; cases e; decide) (by repeat (first | exact Opnds.nil | refine Opnds.cons rfl (by exact Sub.refl _) ?_)) rfl hA rfl ?_
      intro _ _
      rw [← hstd]
      obtain ⟨T', hT'⟩ : ∃ T', T' = deadF e (x.l.take (i + 1)) x.dd := ⟨_, rfl⟩
      rw [← hT']
      repeat (fail)
      refine J.exC (key := 1000) (q := 2) rfl rfl fun p2 => ?_
      refine J.regroup (key := 1000) (apHc σ mu ks S.v S.t x R α e L' T' ++ [rowLv (some ⟨g, 0, none⟩) x.l ci, obj ξ (itL y)]) rfl (Ent.sep (Ent.refl _) (Ent.sep (Ent.refl _) (ent_toM ⟨x.key, x.η, L', T'⟩))) ?_
      refine J.region mixed hI (by kernel_rfl) ?_
      repeat (first | refine Plan.move rfl rfl rfl rfl ?_ | (refine Plan.ints rfl rfl rfl rfl rfl rfl ?_; (refine Plan.int (i64r (by omega)) ?_)))
      refine Plan.int (y := ((i + 1 : Nat) : Int)) (by omega) ?_
      repeat (fail)
      refine Nrm.next (i + 1) hlt (by omega) ?_
      unfold apA apB
      rw [← hL', ← hT']
      exact (by repeat (first | exact Weak.nil | refine Weak.cons rfl (Sub.refl _) ?_ | refine Weak.cons rfl (Sub.heap (Ent.pickC [0, 1, 2, 3, 4, 5] rfl rfl)) ?_))
    · rw [if_neg (fun h => h9 h.2)] at hstd
      refine J.skip ?_
      refine J.regroup (key := 1000) (apHc σ mu ks S.v S.t x R α e L' T ++ [rowLv (some ⟨g, 0, none⟩) x.l ci, obj ξ (itL y)]) rfl (Ent.sep (Ent.refl _) (Ent.sep (Ent.refl _) (ent_toL ⟨x.key, x.η, L', T⟩))) ?_
      refine J.region mixed hI (by kernel_rfl) ?_
      repeat (first | refine Plan.move rfl rfl rfl rfl ?_ | (refine Plan.ints rfl rfl rfl rfl rfl rfl ?_; (refine Plan.int (i64r (by omega)) ?_)))
      refine Plan.int (y := ((i + 1 : Nat) : Int)) (by omega) ?_
      repeat (fail)
      refine Nrm.next (i + 1) hlt (by omega) ?_
      unfold apA apB
      rw [← hL', hstd]
      exact (by repeat (first | exact Weak.nil | refine Weak.cons rfl (Sub.refl _) ?_ | refine Weak.cons rfl (Sub.heap (Ent.pickC [0, 1, 2, 3, 4, 5] rfl rfl)) ?_))
  have hie : i = x.l.length := by
    first | omega | (dsimp only at hc; omega)
  subst hie
  refine J.exit ?_
  unfold apA apB apHc
  rw [List.take_length]
  obtain ⟨L, hL⟩ : ∃ L, L = liveF e x.l x.l := ⟨_, rfl⟩
  obtain ⟨T, hT⟩ : ∃ T, T = deadF e x.l x.dd := ⟨_, rfl⟩
  have hLs : sortedD L := by rw [hL]; exact liveF_sorted e _ _ hs
  have hLl : L.length ≤ 100000 := by rw [hL]; exact Nat.le_trans (liveF_len e _ _) hln
  rw [← hT] at hap ⊢
  rw [← hL]
  refine J.seqMid (σ := Unit) (fun _ => [(0, .ex (ptr σ)), (3, .ex (ptr α)), (1000, heap (fun b => F b ∨ w0.heap.size ≤ b) (apHc σ mu ks S.v S.t x R α e (applyL e x.l) T))]) (fun _ => True) ?_ ?_
  · refine J.seq (J.region mixed hI (by kernel_rfl) ?_)
    repeat (refine Plan.fieldC rfl rfl rfl rfl (by first | exact Tryz.underlying58 | exact Tryz.underlying40 | exact Tryz.underlying38) rfl (by kernel_rfl) (by exact (rfl : _ = 19)) ?_)
    refine Plan.loadC (key := 1000) (q := 4) (off := 19) (v := vi e.kind) rfl rfl rfl rfl rfl rfl (obj_reads1 rfl) Tryz.underlying3 rfl (by decide) ?_
    refine Plan.call (B := 0) rfl rfl rfl (adds_fn e.kind) Tryz.func31 rfl rfl (fun _ _ => Nat.zero_le _) (by repeat (first | exact Opnds.nil | refine Opnds.cons rfl (by exact Sub.refl _) ?_)) ?_
    by_cases hadd : addP e.kind
    case pos =>
      have ha : applyL e x.l = putD L (dotOf e) e := by unfold applyL; rw [if_pos hadd, ← hL]
      rw [ha]
      refine Plan.boolv (y := true) (decide_eq_true hadd) ?_
      refine J.condT rfl ?_
      refine J.exC (key := 1000) (q := 2) rfl rfl fun p => ?_
      refine J.regroup (key := 1000) [obj σ (spCells (.map mu) S.v S.t), mapS mu ks, bagCL x.η (.slice p.2.1 T.length p.2.2) L, rowDd p.2.1 T p.2.2, R, obj α e.enc, rowLv Bi x.l ci] rfl (Ent.sep (Ent.refl _) (Ent.sep (Ent.refl _) (ent_bagL ⟨x.key, x.η, L, T⟩))) ?_
      refine J.region mixed hI (by kernel_rfl) ?_
      repeat (first | refine Plan.move rfl rfl rfl rfl ?_ | refine Plan.nilOk rfl rfl rfl rfl ?_ | refine Plan.fieldC rfl rfl rfl rfl (by first | exact Tryz.underlying58 | exact Tryz.underlying40 | exact Tryz.underlying77) rfl (by kernel_rfl) (by exact (rfl : _ = 0)) ?_)
      refine Plan.loadAggC (key := 1000) (q := 5) (off := 0) (vs := [vi e.r, vi e.n]) rfl rfl rfl rfl rfl rfl (obj_reads rfl) Tryz.underlying34 rfl (by kernel_rfl) (by decide) ?_
      refine Plan.loadAggC (key := 1000) (q := 5) (vs := e.enc) rfl rfl rfl rfl rfl rfl obj_whole Tryz.underlying40 rfl (by rw [encE]; kernel_rfl) (by decide) ?_
      refine Plan.callC (key := 1000) (q := 2) rfl rfl rfl (put_fnL x.η (.slice p.2.1 T.length p.2.2) L hLs (by omega) (dotOf e) e) Tryz.func32 rfl rfl (by intro _ e; cases e; decide) (by repeat (first | exact Opnds.nil | refine Opnds.cons rfl (by exact Sub.refl _) ?_)) rfl hA rfl ?_
      intro _ _
      repeat (fail)
      exact Nrm.mid () trivial (Weak.cons rfl (Sub.refl _) (Weak.cons rfl (Sub.refl _) (Weak.cons rfl (Sub.heap ((Ent.pickC (H' := [obj σ (spCells (.map mu) S.v S.t), mapS mu ks, bagCL x.η (.slice p.2.1 T.length p.2.2) (putD L (dotOf e) e), rowDd p.2.1 T p.2.2, R, obj α e.enc]) [0, 1, 2, 3, 4, 5] rfl rfl).trans (Ent.sep (Ent.refl _) (Ent.sep (Ent.refl _) (ent_fromL ⟨x.key, x.η, putD L (dotOf e) e, T⟩))))) Weak.nil)))
    case neg =>
      have ha : applyL e x.l = L := by unfold applyL; rw [if_neg hadd, ← hL]
      rw [ha]
      refine Plan.boolv (y := false) (decide_eq_false hadd) ?_
      refine J.condF rfl ?_
      refine J.skip ?_
      exact Nrm.mid () trivial (by repeat (first | exact Weak.nil | refine Weak.cons rfl (Sub.refl _) ?_ | refine Weak.cons rfl (Sub.heap (Ent.pickC [0, 1, 2, 3, 4] rfl rfl)) ?_))
  intro _ _
  have hd0 : dotP e.r e.n := hR.1
  refine J.seq (J.drawAt (m := 14) (l0 := #[false, false, false, false, false, false, false, false, false, false, false, false, false, false]) mixed hI rfl rfl ?_)
  refine D.move1 0 (by kernel_rfl) rfl (by kernel_rfl) (by kernel_rfl) (fun _ _ _ _ h => h) rfl rfl rfl rfl rfl rfl ?_
  refine D.move1 1 (by kernel_rfl) rfl (by kernel_rfl) (by kernel_rfl) (fun _ _ _ _ h => h) rfl rfl rfl rfl rfl rfl ?_
  refine D.nil1 2 (by kernel_rfl) rfl (by kernel_rfl) (by kernel_rfl) (fun _ _ _ _ h => h) rfl rfl rfl rfl rfl rfl ?_
  refine D.field1 (off := 1) 3 (by kernel_rfl) rfl (by kernel_rfl) (by kernel_rfl) (fun _ _ _ _ h => h) rfl rfl rfl rfl rfl rfl Tryz.underlying55 rfl (by kernel_rfl) rfl ?_
  refine D.field1 (off := 0) 5 (by kernel_rfl) rfl (by kernel_rfl) (by kernel_rfl) (fun _ _ _ _ h => h) rfl rfl rfl rfl rfl rfl Tryz.underlying40 rfl (by kernel_rfl) rfl ?_
  refine D.later (fuel2 := 7) #[true, true, true, true, true, true, true, false, false, false, false, false, false, false] [(81, .ex (aggD e.r e.n)), (79, .ex (aggV S.v)), (75, .ex (ptr σ)), (0, .ex (ptr σ)), (3, .ex (ptr α)), (1000, heap (fun b => F b ∨ w0.heap.size ≤ b) (apHc σ mu ks S.v S.t x R α e (applyL e x.l) T))] (fun hcont => ?_) ?_
  · refine D.two 4 6 (by kernel_rfl) (by kernel_rfl) hI ?_ ?_
    · refine Plan.loadAggC (key := 1000) (q := 0) (off := 1) (vs := vList S.v) rfl rfl rfl rfl rfl rfl (obj_reads rfl) Tryz.underlying36 rfl (by kernel_rfl) (by decide) ?_
      refine D.go ?_
      refine D.one 6 (by kernel_rfl) (by kernel_rfl) hI ?_
      refine Plan.loadAggC (key := 1000) (q := 4) (off := 0) (vs := [vi e.r, vi e.n]) rfl rfl rfl rfl rfl rfl (obj_reads rfl) Tryz.underlying34 rfl (by kernel_rfl) (by decide) ?_
      refine D.go ?_
      exact D.weak2 _ rfl (by repeat (first | exact Weak.nil | refine Weak.cons rfl (Sub.refl _) ?_)) hcont
    · refine Plan.loadAggC (key := 1000) (q := 4) (off := 0) (vs := [vi e.r, vi e.n]) rfl rfl rfl rfl rfl rfl (obj_reads rfl) Tryz.underlying34 rfl (by kernel_rfl) (by decide) ?_
      refine D.go ?_
      refine D.one 4 (by kernel_rfl) (by kernel_rfl) hI ?_
      refine Plan.loadAggC (key := 1000) (q := 0) (off := 1) (vs := vList S.v) rfl rfl rfl rfl rfl rfl (obj_reads rfl) Tryz.underlying36 rfl (by kernel_rfl) (by decide) ?_
      refine D.go ?_
      exact D.weak2 _ rfl (by repeat (first | exact Weak.nil | refine Weak.cons rfl (Sub.refl _) ?_)) hcont
  refine D.one 7 (by kernel_rfl) (by kernel_rfl) hI ?_
  refine Plan.call (B := 0) rfl rfl rfl (with_fn S.v (e.r, e.n) hv hd0 hY.2.1) Tryz.func14 rfl rfl (fun _ _ => Nat.zero_le _) (by repeat (first | exact Opnds.nil | refine Opnds.cons rfl (by exact Sub.refl _) ?_)) ?_
  refine Plan.weakE [(82, .ex (.tuple #[aggV (putV2 S.v (e.r, e.n)), vi 0])), (75, .ex (ptr σ)), (0, .ex (ptr σ)), (3, .ex (ptr α)), (1000, heap (fun b => F b ∨ w0.heap.size ≤ b) (apHc σ mu ks S.v S.t x R α e (applyL e x.l) T))] (Weak.cons rfl Sub.tupEx (by repeat (first | exact Weak.nil | refine Weak.cons rfl (Sub.refl _) ?_))) ?_
  refine D.go ?_
  refine D.move1 8 (by kernel_rfl) rfl (by kernel_rfl) (by kernel_rfl) (fun _ _ _ _ h => h) rfl rfl rfl rfl rfl rfl ?_
  refine D.extract1 10 (by kernel_rfl) rfl (by kernel_rfl) (by kernel_rfl) (fun _ _ _ _ h => h) rfl rfl rfl rfl rfl rfl rfl ?_
  refine D.extract1 9 (by kernel_rfl) rfl (by kernel_rfl) (by kernel_rfl) (fun _ _ _ _ h => h) rfl rfl rfl rfl rfl rfl rfl ?_
  refine D.nil1 11 (by kernel_rfl) rfl (by kernel_rfl) (by kernel_rfl) (fun _ _ _ _ h => h) rfl rfl rfl rfl rfl rfl ?_
  refine D.field1 (off := 1) 12 (by kernel_rfl) rfl (by kernel_rfl) (by kernel_rfl) (fun _ _ _ _ h => h) rfl rfl rfl rfl rfl rfl Tryz.underlying55 rfl (by kernel_rfl) rfl ?_
  refine D.one 13 (by kernel_rfl) (by kernel_rfl) hI ?_
  refine Plan.storeC (key := 1000) (q := 0) (off := 1) rfl rfl rfl rfl rfl rfl (by simp [Value.cells, Value.oneCell', vList]) (by show _ = some (vList (putV2 S.v (e.r, e.n))).toArray.size; kernel_rfl) rfl hA rfl (obj_pat (Nat.le_of_ble_eq_true rfl)) ?_
  refine D.go ?_
  refine D.done (by kernel_rfl) ?_
  repeat (fail)
  refine J.regroup (key := 1000) (apHc σ mu ks (putV2 S.v (dotOf e)) S.t x R α e (applyL e x.l) T) rfl (Ent.refl _) ?_
  refine J.seq (J.region mixed hI (by kernel_rfl) ?_)
  repeat (first | refine Plan.move rfl rfl rfl rfl ?_ | refine Plan.nilOk rfl rfl rfl rfl ?_ | refine Plan.fieldC rfl rfl rfl rfl (by first | exact Tryz.underlying58 | exact Tryz.underlying40 | exact Tryz.underlying55) rfl (by kernel_rfl) (by first | exact (rfl : _ = 2) | exact (rfl : _ = 17)) ?_ | refine Plan.loadC (key := 1000) (q := 0) rfl rfl rfl rfl rfl rfl (obj_reads1 rfl) (by exact Tryz.underlying3) (by rfl) (by decide) ?_)
  refine Plan.loadC (key := 1000) (q := 4) (off := 2) (v := vi e.time) rfl rfl rfl rfl rfl rfl (obj_reads1 rfl) Tryz.underlying3 rfl (by decide) ?_
  repeat (fail)
  refine Plan.max2 rfl rfl rfl rfl rfl ?_
  obtain ⟨t', ht'⟩ : ∃ t', t' = if e.time > S.t then e.time else S.t := ⟨_, rfl⟩
  rw [← ht']
  repeat (first | refine Plan.nilOk rfl rfl rfl rfl ?_ | refine Plan.fieldC rfl rfl rfl rfl (by first | exact Tryz.underlying58 | exact Tryz.underlying55) rfl (by kernel_rfl) (by exact (rfl : _ = 17)) ?_)
  refine Plan.storeC (key := 1000) (q := 0) (off := 17) rfl rfl rfl rfl rfl rfl (by simp [Value.cells, Value.oneCell']) (by kernel_rfl) rfl hA rfl (obj_pat1 (show 17 < 18 by decide)) ?_
  repeat (fail)
  refine J.regroup (key := 1000) (apHc σ mu ks (putV2 S.v (dotOf e)) t' x R α e (applyL e x.l) T) rfl (Ent.refl _) ?_
  refine J.seq (J.region mixed hI (by kernel_rfl) ?_)
  repeat (refine Plan.assign rfl rfl rfl rfl ?_)
  refine J.ret (Nrm.retC1 (key := 1000) (⟨mu, ks.set j ⟨x.key, x.η, applyL e x.l, T⟩, putV2 S.v (dotOf e), t'⟩ : SpV) rfl rfl rfl (by rw [if_pos hY, hmu]; exact hap t') (Sub.refl _) ?_)
  rw [hRR]
  exact ent_back hj rfl rfl
end Go.Proofs.YtmljgobenlpnfaaGreat
end

section
namespace Go.Proofs.YtmljgobenlpnfaaGreat
open Go.Free Go.RowKit Go.Proofs Go.Free.Sorts
set_option maxHeartbeats 16000000
theorem vv_fn (σ : Nat) (kv : Value) (v : Nat → Int) (t : Int) : SpcR Tryz.prog 19 [.ex (ptr σ)] (obj σ (spCells kv v t)) fun _ => .ex (aggV v) := by
  refine SpcR.introOld Tryz.func19 rfl (Nat.le_of_ble_eq_true rfl) fun w0 => ?_
  have hI := hIb w0
  have hA := Own.below w0
  refine J.heap0 1001 (newB w0) ?_
  refine J.seq (J.region mixed hI (by kernel_rfl) ?_)
  refine Plan.allocC (key := 1001) (z := .agg (vList fun _ => 0).toArray) rfl rfl rfl (by intro _ e; cases e; decide) (by kernel_rfl) rfl hA fun a => ?_
  repeat (fail)
  refine J.seq (J.seq (J.region mixed hI (by kernel_rfl) ?_))
  repeat (first | refine Plan.move rfl rfl rfl rfl ?_ | refine Plan.eqlPtr rfl rfl rfl rfl (by kernel_rfl) ?_)
  refine J.condF rfl ?_
  refine J.skip ?_
  refine J.heapAgain 1000 (fun _ h => h) rfl ?_
  refine J.seq (J.region mixed hI (by kernel_rfl) ?_)
  repeat (first | refine Plan.move rfl rfl rfl rfl ?_ | refine Plan.nilOk rfl rfl rfl rfl ?_ | refine Plan.fieldC rfl rfl rfl rfl (by first | exact Tryz.underlying58 | exact Tryz.underlying55) rfl (by kernel_rfl) (by exact (rfl : _ = 1)) ?_)
  refine Plan.loadAggC (key := 1000) (q := 0) (off := 1) (vs := vList v) rfl rfl rfl rfl rfl rfl (obj_reads rfl) Tryz.underlying36 rfl (by kernel_rfl) (by decide) ?_
  refine Plan.storeC (key := 1001) (q := 0) (off := 0) rfl rfl rfl rfl rfl rfl (by simp [Value.cells, Value.oneCell', vList]) (by show _ = some (vList v).toArray.size; kernel_rfl) rfl hA rfl (obj_pat (Nat.le_of_ble_eq_true rfl)) ?_
  repeat (fail)
  exact J.ret (Nrm.retCell (key := 1001) (q := 0) rfl (fun _ h => h) rfl rfl rfl (obj_reads rfl) Tryz.underlying36 rfl (by kernel_rfl) fun B _ => rfl)
end Go.Proofs.YtmljgobenlpnfaaGreat
end

section
namespace Go.Proofs.YtmljgobenlpnfaaGreat
open Go.Free Go.RowKit Go.Proofs
set_option maxHeartbeats 4000000
theorem evs_snoc (L : List EvV) (e : EvV) : evsC L ++ e.enc = evsC (L ++ [e]) := by simp [evsC]
theorem takes_fn (γ β : Nat) (m : LogV) (f : Nat) (b : List UInt8) (ini : Bool) (hl : m.l.length ≤ 1000000) (hb : b.length ≤ 140737488300000) :
    SpcC Tryz.prog 22 [.ex (ptr γ), bytesF b, .ex (.bool ini)] (logC γ β m f) (fun _ : Unit => True) (fun _ => .ex (.bool (takeM m b ini).isSome)) (fun _ => logC γ β ((takeM m b ini).getD m) f) := by
  refine SpcC.intro Tryz.func22 rfl (Nat.le_of_ble_eq_true rfl) fun w0 F => ?_
  have hI := kept_below F w0
  have hA := Own.kept F w0
  cases b with
  | nil =>
    show J _ _ _ _ _ _
    have hn : takeM m [] ini = none := rfl
    rw [hn]
    repeat (first | refine Plan.assign rfl rfl rfl rfl ?_ | refine J.seq (J.region mixed hI (by kernel_rfl) ?_))
    refine J.seq (J.block ?_)
    repeat (first | refine Plan.move rfl rfl rfl rfl ?_ | refine Plan.assign rfl rfl rfl rfl ?_ | refine Plan.skip rfl rfl ?_ | refine Plan.pick rfl rfl rfl rfl rfl ?_ | (refine Plan.ints rfl rfl rfl rfl rfl rfl ?_; (skip)) | refine Plan.lenB rfl rfl rfl rfl (by exact Sub.refl _) Tryz.underlying56 ?_ | refine J.seq (J.region mixed hI (by kernel_rfl) ?_) | refine J.condF rfl ?_ | refine J.skip ?_)
    refine Plan.boolv (y := false) (by simp) ?_
    repeat (fail)
    refine Plan.boolv (y := false) (by simp) ?_
    repeat (fail)
    exact J.ret (Nrm.retC1 (key := 1000) () rfl rfl rfl trivial (Sub.refl _) Ent.one)
  | cons y r =>
    have hne : ∀ z : UInt8, ¬ y = z → ¬ ((y.toNat : Int) = (z.toNat : Int)) := fun z h e => h (UInt8.toNat_inj.1 (by omega))
    repeat (first | refine Plan.assign rfl rfl rfl rfl ?_ | refine J.seq (J.region mixed hI (by kernel_rfl) ?_))
    refine J.seq (J.block ?_)
    repeat (first | refine Plan.move rfl rfl rfl rfl ?_ | (refine Plan.ints rfl rfl rfl rfl rfl rfl ?_; (skip)) | refine Plan.lenB rfl rfl rfl rfl (by exact Sub.refl _) Tryz.underlying56 ?_ | refine J.seq (J.region mixed hI (by kernel_rfl) ?_))
    refine Plan.boolv (y := true) (by simp) ?_
    repeat (refine Plan.move rfl rfl rfl rfl ?_)
    refine Plan.indexB (l := y :: r) (q := 0) rfl rfl rfl rfl (Sub.refl _) rfl eltB (by simp) ?_
    refine Plan.load rfl rfl rfl rfl (Sub.refl _) Tryz.underlying5 rfl ?_
    have hg : (y :: r).getD 0 0 = y := rfl
    rw [hg]
    repeat (first | refine Plan.move rfl rfl rfl rfl ?_ | refine Plan.pick rfl rfl rfl rfl rfl ?_ | (refine Plan.ints rfl rfl rfl rfl rfl rfl ?_; (skip)))
    by_cases h1 : y = 1
    · subst h1
      refine Plan.boolv (y := true) (by decide) ?_
      cases ini with
      | true =>
        have hn : takeM m (1 :: r) true = some ⟨r, true, m.l⟩ := rfl
        rw [hn]
        repeat (first | refine Plan.move rfl rfl rfl rfl ?_ | refine Plan.assign rfl rfl rfl rfl ?_ | refine Plan.pick rfl rfl rfl rfl rfl ?_ | refine J.seq (J.region mixed hI (by kernel_rfl) ?_) | refine J.condT rfl ?_)
        refine Plan.sliceB (l := 1 :: r) (a0 := 1) (b0 := (1 :: r).length) rfl rfl rfl rfl (Sub.refl _) eltB (.inr ⟨_, _, rfl, rfl⟩) (.inl ⟨rfl, rfl⟩) (by simp) (Nat.le_refl _) ?_
        have hs : ((1 :: r).take (1 :: r).length).drop 1 = r := by rw [List.take_length]; rfl
        rw [hs]
        refine Plan.convBS (p := r) rfl rfl rfl rfl (Sub.refl _) Tryz.underlying56 Tryz.underlying9 Tryz.underlying5 ?_
        repeat (first | refine Plan.nilOk rfl rfl rfl rfl ?_ | refine Plan.fieldC rfl rfl rfl rfl (by first | exact Tryz.underlying58 | exact Tryz.underlying60) rfl (by kernel_rfl) (by exact (rfl : _ = 1)) ?_)
        refine Plan.exC (by kernel_rfl) hI (key := 1000) (q := 0) rfl rfl fun x => ?_
        refine Plan.sepC (by kernel_rfl) hI (key := 1000) (q := 0) rfl rfl ?_
        repeat (fail)
        refine Plan.storeC (key := 1000) (q := 0) rfl rfl rfl rfl rfl rfl (by simp [Value.cells, Value.oneCell', str]) (by kernel_rfl) rfl hA rfl (obj_pat1 (Nat.le_of_ble_eq_true rfl)) ?_
        repeat (first | refine Plan.nilOk rfl rfl rfl rfl ?_ | refine Plan.fieldC rfl rfl rfl rfl (by first | exact Tryz.underlying58 | exact Tryz.underlying60) rfl (by kernel_rfl) (by exact (rfl : _ = 2)) ?_)
        refine Plan.storeC (key := 1000) (q := 0) rfl rfl rfl rfl rfl rfl (by simp [Value.cells, Value.oneCell', str]) (by kernel_rfl) rfl hA rfl (obj_pat1 (Nat.le_of_ble_eq_true rfl)) ?_
        repeat (first | refine Plan.assign rfl rfl rfl rfl ?_ | refine J.seq (J.region mixed hI (by kernel_rfl) ?_))
        exact J.ret (Nrm.retC1 (key := 1000) () rfl rfl rfl trivial (Sub.refl _) (log_close (m := ⟨r, true, m.l⟩) (B := x.1) (cap := x.2)))
      | false =>
        have hn : takeM m (1 :: r) false = none := by simp [takeM]
        rw [hn]
        repeat (first | refine Plan.move rfl rfl rfl rfl ?_ | refine Plan.assign rfl rfl rfl rfl ?_ | refine Plan.pick rfl rfl rfl rfl rfl ?_ | (refine Plan.ints rfl rfl rfl rfl rfl rfl ?_; (skip)) | refine Plan.lenB rfl rfl rfl rfl (by exact Sub.refl _) Tryz.underlying56 ?_ | refine J.seq (J.region mixed hI (by kernel_rfl) ?_) | refine J.condF rfl ?_)
        refine Plan.boolv (y := true) (by simp) ?_
        repeat (refine Plan.move rfl rfl rfl rfl ?_)
        refine Plan.indexB (l := 1 :: r) (q := 0) rfl rfl rfl rfl (Sub.refl _) rfl eltB (by simp) ?_
        refine Plan.load rfl rfl rfl rfl (Sub.refl _) Tryz.underlying5 rfl ?_
        rw [hg]
        repeat (first | refine Plan.assign rfl rfl rfl rfl ?_ | refine Plan.pick rfl rfl rfl rfl rfl ?_ | (refine Plan.ints rfl rfl rfl rfl rfl rfl ?_; (skip)) | refine J.seq (J.region mixed hI (by kernel_rfl) ?_) | refine J.condF rfl ?_ | refine J.skip ?_)
        refine Plan.boolv (y := false) (by decide) ?_
        repeat (fail)
        exact J.ret (Nrm.retC1 (key := 1000) () rfl rfl rfl trivial (Sub.refl _) Ent.one)
    · refine Plan.boolv (y := false) (decide_eq_false (hne 1 h1)) ?_
      repeat (first | refine Plan.move rfl rfl rfl rfl ?_ | refine Plan.assign rfl rfl rfl rfl ?_ | refine Plan.skip rfl rfl ?_ | refine Plan.pick rfl rfl rfl rfl rfl ?_ | (refine Plan.ints rfl rfl rfl rfl rfl rfl ?_; (skip)) | refine Plan.lenB rfl rfl rfl rfl (by exact Sub.refl _) Tryz.underlying56 ?_ | refine J.seq (J.region mixed hI (by kernel_rfl) ?_) | refine J.condF rfl ?_)
      refine Plan.boolv (y := true) (by simp) ?_
      repeat (refine Plan.move rfl rfl rfl rfl ?_)
      refine Plan.indexB (l := y :: r) (q := 0) rfl rfl rfl rfl (Sub.refl _) rfl eltB (by simp) ?_
      refine Plan.load rfl rfl rfl rfl (Sub.refl _) Tryz.underlying5 rfl ?_
      rw [hg]
      by_cases h0 : y = 0
      · subst h0
        have k1 := decode_fn r (by simp only [List.length_cons] at hb; omega)
        have hn : takeM m (0 :: r) ini = if decE r = 0 then some ⟨m.s, m.b, m.l ++ [decR r]⟩ else none := by simp [takeM]
        rw [hn]
        clear hn
        generalize decR r = V at *
        generalize decE r = er at *
        repeat (first | refine Plan.move rfl rfl rfl rfl ?_ | refine Plan.assign rfl rfl rfl rfl ?_ | refine Plan.pick rfl rfl rfl rfl rfl ?_ | (refine Plan.ints rfl rfl rfl rfl rfl rfl ?_; (skip)) | refine J.seq (J.region mixed hI (by kernel_rfl) ?_) | refine J.condT rfl ?_)
        refine Plan.sliceB (l := 0 :: r) (a0 := 1) (b0 := (0 :: r).length) rfl rfl rfl rfl (Sub.refl _) eltB (.inr ⟨_, _, rfl, rfl⟩) (.inl ⟨rfl, rfl⟩) (by simp) (Nat.le_refl _) ?_
        have hs : ((0 :: r).take (0 :: r).length).drop 1 = r := by rw [List.take_length]; rfl
        rw [hs]
        refine Plan.call (B := 0) rfl rfl rfl (k1) Tryz.func53 rfl rfl (fun _ _ => Nat.zero_le _) (by repeat (first | exact Opnds.nil | refine Opnds.cons rfl (by exact Sub.refl _) ?_)) ?_
        repeat (first | refine Plan.move rfl rfl rfl rfl ?_ | refine Plan.extract rfl rfl rfl rfl rfl ?_)
        refine Plan.allocC (key := 1000) (z := .agg ev0.enc.toArray) rfl rfl rfl (by intro _ e; cases e; decide) (by kernel_rfl) rfl hA fun ξ => ?_
        refine Plan.storeC (key := 1000) (q := 1) (off := 0) rfl rfl rfl rfl rfl rfl (encE_one V) (by show _ = some V.enc.toArray.size; kernel_rfl) rfl hA rfl (obj_pat (Nat.le_of_ble_eq_true rfl)) ?_
        repeat (first | refine Plan.move rfl rfl rfl rfl ?_ | refine Plan.assign rfl rfl rfl rfl ?_ | (refine Plan.ints rfl rfl rfl rfl rfl rfl ?_; (skip)) | refine J.seq (J.seq (J.region mixed hI (by kernel_rfl) ?_)))
        refine J.condE rfl (fun hd => ?_) (fun hd => ?_)
        · have hd' : er = 0 := by omega
          rw [if_pos hd']
          refine J.exC (key := 1000) (q := 0) rfl rfl fun x => ?_
          refine J.sepC (key := 1000) (q := 0) rfl rfl ?_
          refine J.loose2 [(0, ptr γ)] [(0, .ex (ptr γ))] mixed hI rfl rfl rfl (by kernel_rfl) (by kernel_rfl) (by kernel_rfl) rfl rfl (fun ⟨_, _, h⟩ => h) (fun _ _ _ _ h => h) (by repeat (first | exact Weak.nil | refine Weak.cons rfl (Sub.refl _) ?_)) ?_ ?_
          · exact Gives.cons [(0, .ex (ptr γ))] (by kernel_rfl) rfl (by kernel_rfl) (Plan.move rfl rfl rfl rfl (Plan.gives rfl)) Gives.nil
          repeat (first | refine Plan.move rfl rfl rfl rfl ?_ | refine Plan.assign rfl rfl rfl rfl ?_ | refine Plan.nilOk rfl rfl rfl rfl ?_ | refine Plan.fieldC rfl rfl rfl rfl (by first | exact Tryz.underlying58 | exact Tryz.underlying60) rfl (by kernel_rfl) (by exact (rfl : _ = 3)) ?_ | refine Plan.loadC (key := 1000) (q := 0) rfl rfl rfl rfl rfl rfl (obj_reads1 rfl) (by exact Tryz.underlying22) (by rfl) (by decide) ?_)
          refine Plan.loadAggC (key := 1000) (q := 1) (vs := V.enc) rfl rfl rfl rfl rfl rfl obj_whole Tryz.underlying40 rfl (by rw [encE]; kernel_rfl) (by decide) ?_
          refine Plan.lit (B := 0) rfl rfl rfl eltE rfl (fun _ _ => Nat.zero_le _) rfl (fun v hv => by rw [List.mem_singleton.1 hv]; rfl) (by decide) ?_
          refine Plan.appendC (key := 1000) (q := 2) (news := V.enc) rfl rfl rfl rfl rfl Sub.own eltE (by intro _ e; cases e; decide) rfl hA rfl (encE_one V) (by rw [evs_len, encE]; omega) fun B1 m1 c1 hm1 => ?_
          obtain rfl : m1 = (m.l ++ [V]).length := by rw [evs_len, encE] at hm1; simp only [List.length_append, List.length_cons, List.length_nil]; omega
          rw [evs_snoc]
          repeat (first | refine Plan.nilOk rfl rfl rfl rfl ?_ | refine Plan.fieldC rfl rfl rfl rfl (by first | exact Tryz.underlying58 | exact Tryz.underlying60) rfl (by kernel_rfl) (by exact (rfl : _ = 3)) ?_)
          refine Plan.storeC (key := 1000) (q := 0) rfl rfl rfl rfl rfl rfl (by simp [Value.cells, Value.oneCell', str]) (by kernel_rfl) rfl hA rfl (obj_pat1 (Nat.le_of_ble_eq_true rfl)) ?_
          repeat (first | refine Plan.move rfl rfl rfl rfl ?_ | refine Plan.assign rfl rfl rfl rfl ?_ | (refine Plan.ints rfl rfl rfl rfl rfl rfl ?_; (skip)) | refine J.seq (J.region mixed hI (by kernel_rfl) ?_))
          refine Plan.boolv (y := true) (by simp [hd']) ?_
          repeat (fail)
          exact J.ret (Nrm.retC1 (key := 1000) () rfl rfl rfl trivial (Sub.refl _) ((Ent.pickC (H' := [obj γ [ptr β, str m.s, .bool m.b, .slice B1 (m.l ++ [V]).length c1, vi f], rowEv B1 (m.l ++ [V]).length c1 (evsC (m.l ++ [V]))]) [0, 2] rfl rfl).trans (log_close (m := ⟨m.s, m.b, m.l ++ [V]⟩) (B := B1) (cap := c1))))
        · have hd' : ¬ er = 0 := by omega
          rw [if_neg hd']
          repeat (first | refine Plan.move rfl rfl rfl rfl ?_ | refine Plan.assign rfl rfl rfl rfl ?_ | (refine Plan.ints rfl rfl rfl rfl rfl rfl ?_; (skip)) | refine J.seq (J.region mixed hI (by kernel_rfl) ?_) | refine J.skip ?_)
          refine Plan.boolv (y := false) (by simp [hd']) ?_
          repeat (fail)
          exact J.ret (Nrm.retC1 (key := 1000) () rfl rfl rfl trivial (Sub.refl _) Ent.left)
      · have hn : takeM m (y :: r) ini = none := by simp [takeM, h0, h1]
        rw [hn]
        repeat (first | refine Plan.assign rfl rfl rfl rfl ?_ | refine Plan.pick rfl rfl rfl rfl rfl ?_ | (refine Plan.ints rfl rfl rfl rfl rfl rfl ?_; (skip)))
        refine Plan.boolv (y := false) (decide_eq_false (hne 0 h0)) ?_
        repeat (first | refine Plan.assign rfl rfl rfl rfl ?_ | refine J.seq (J.region mixed hI (by kernel_rfl) ?_) | refine J.condF rfl ?_ | refine J.skip ?_)
        exact J.ret (Nrm.retC1 (key := 1000) () rfl rfl rfl trivial (Sub.refl _) Ent.one)
end Go.Proofs.YtmljgobenlpnfaaGreat
end
