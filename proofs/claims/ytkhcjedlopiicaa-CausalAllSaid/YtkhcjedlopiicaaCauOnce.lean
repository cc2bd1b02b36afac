/-
  The law CausalOnce returns true for all arguments.
-/
import Derived.Test.YtkhcjedlopiicaaCauRef
import Derived.Test.YtkhcjedlopiicaaCauPlain
import Derived.Test.YtkhcjedlopiicaaEvRefRight
set_option linter.unusedSimpArgs false
set_option linter.unusedVariables false
set_option maxRecDepth 20000
namespace Go.Proofs.Ytkhcjedlopiicaa
open Go.Free Go.RowKit Go.Proofs
set_option maxHeartbeats 8000000

abbrev evsC (l : List EvV) : Fa := row 26 (l.flatMap EvV.enc)
theorem flat_ev (L : List EvV) {i : Nat} (hi : i < L.length) : (L.flatMap EvV.enc).drop (i * 26) = L[i].enc ++ (L.drop (i + 1)).flatMap EvV.enc := by
  rw [flat_split L i, List.drop_left' (by rw [flat_len encE, List.length_take, Nat.min_eq_left (by omega)]), ← List.getElem_cons_drop (h := hi), List.flatMap_cons]
def onE (w0 : World) (l : List EvV) (β c : Nat) (s : Nat × (Nat → Int) × List (Dt × EvV)) : Env :=
  [(0, old w0 (evsC l)), (3, .ex (ptr β)), (4, .ex (ptr c)), (18, .ex (vi l.length)), (19, .ex (vi s.1)), (1000, heap (newB w0) [bagCE β s.2.2, obj c (vList s.2.1)])]
def onK (w0 : World) (l : List EvV) (β c : Nat) (i : Nat) (v : Nat → Int) (B : List (Dt × EvV)) (out : List EvV) (O : Option Addr) (oc : Nat) (k : Nat) : Env :=
  [(0, old w0 (evsC l)), (3, .ex (ptr β)), (4, .ex (ptr c)), (6, .ex (.slice O out.length oc)), (18, .ex (vi l.length)), (19, .ex (vi i)), (30, .ex (vi out.length)), (31, .ex (vi k)),
   (1000, heap (newB w0) [bagCE β B, obj c (vList (setAll v (out.take k))), rowEv O out.length oc (out.flatMap EvV.enc)])]
theorem lawOnce (l : List EvV) (hl : l.length ≤ 9223372036854775807) (hok : ∀ e ∈ l, e.okV) :
    Spc Try.prog 10 [evsC l] fun _ => .ex (.bool true) := by
  refine Spc.intro Try.func10 rfl (Nat.le_of_ble_eq_true rfl) fun w0 => ?_
  have hI := hIb w0
  have hA := Own.below w0
  refine J.heap0 1000 (newB w0) ?_
  repeat (first | refine Plan.assign rfl rfl rfl rfl ?_ | refine J.seq (J.region mixed hI (by kernel_rfl) ?_) | refine J.seq (J.seq (J.region mixed hI (by kernel_rfl) ?_)))
  refine Plan.call (B := w0.heap.size) rfl rfl rfl (awakeC_fn) Try.func35 rfl rfl (hBb w0) (by repeat (exact Opnds.nil)) ?_
  repeat (first | refine Plan.move rfl rfl rfl rfl ?_ | refine Plan.un rfl rfl rfl rfl rfl ?_)
  refine Plan.lenRow (m := l.length) rfl rfl rfl rfl (Sub.old fun _ h => h) Try.underlying73 (by rw [flat_len encE]) (by decide) ?_
  repeat (first | refine Plan.pick rfl rfl rfl rfl rfl ?_ | (refine Plan.ints rfl rfl rfl rfl rfl rfl ?_; (skip)))
  refine J.condD rfl (fun hc => ?_) (fun hc => ?_)
  · repeat (refine J.seq (J.region mixed hI (by kernel_rfl) ?_))
    refine Plan.call (B := w0.heap.size) rfl rfl rfl (awakeC_fn) Try.func35 rfl rfl (hBb w0) (by repeat (exact Opnds.nil)) ?_
    repeat (refine Plan.assign rfl rfl rfl rfl ?_)
    exact J.ret (Nrm.ret1 rfl (fun _ h => h) rfl fun B _ => Sub.refl _)
  have hsm : l.length ≤ 150 := by omega
  repeat (first | refine J.seq (J.region mixed hI (by kernel_rfl) ?_) | refine J.skip ?_)
  refine Plan.callN (key := 1000) rfl rfl rfl (newC_fn) Try.func36 rfl rfl (by intro _ e; cases e; decide) (by repeat (exact Opnds.nil)) rfl hA ?_
  intro β _
  repeat (first | refine Plan.assign rfl rfl rfl rfl ?_ | refine J.seq (J.region mixed hI (by kernel_rfl) ?_))
  refine Plan.allocC (key := 1000) (z := .agg (vList zeroV).toArray) rfl rfl rfl (by intro _ e; cases e; decide) (by kernel_rfl) rfl hA fun c => ?_
  repeat (first | refine Plan.move rfl rfl rfl rfl ?_ | refine J.seq (J.seq (J.region mixed hI (by kernel_rfl) ?_)))
  refine Plan.lenRow (m := l.length) rfl rfl rfl rfl (Sub.old fun _ h => h) Try.underlying73 (by rw [flat_len encE]) (by decide) ?_
  repeat (refine Plan.move rfl rfl rfl rfl ?_)
  refine J.block (J.loop (onE w0 l β c) (fun s => s.1 ≤ l.length ∧ okV s.2.1 ∧ heldB s.2.2 ∧ s.2.2.length ≤ 64) (fun s => l.length - s.1) (0, zeroV, []) ⟨Nat.zero_le _, zeroV_ok, held_nil, by simp⟩ ?_ ?_)
  · repeat (first | exact Weak.nil | refine Weak.cons rfl (Sub.refl _) ?_)
  rintro ⟨i, v, B⟩ ⟨hi, hv, hB, hBl⟩
  simp only at hi hv hB hBl
  change J _ _ _ _ _ [(0, old w0 (evsC l)), (3, .ex (ptr β)), (4, .ex (ptr c)), (18, .ex (vi l.length)), (19, .ex (vi i)), (1000, heap (newB w0) [bagCE β B, obj c (vList v)])]
  repeat (first | (refine Plan.ints rfl rfl rfl rfl rfl rfl ?_; (skip)) | refine J.seq (J.region mixed hI (by kernel_rfl) ?_))
  refine J.seq (J.condD rfl (fun hc => ?_) (fun hc => ?_))
  · have hlt : i < l.length := by omega
    have hx : l[i]? = some l[i] := List.getElem?_eq_getElem hlt
    have hgd : l.getD i ev0 = l[i] := by rw [List.getD_eq_getElem?_getD, hx]; rfl
    have hoi := hok _ (List.getElem_mem hlt)
    have hC := held_come (e := l[i]) (v := v) hB hoi
    have hCl := len_come64 (e := l[i]) (v := v) hBl
    have htl := told_len (v := v) hC
    have hte : ∀ {j : Nat} {x : EvV}, (toldE v (comeE l[i] v B)).1[j]? = some x → _ := fun {j x} => told_each (j := j) (x := x) hC
    have hth := told_held (v := v) hC
    have htk := told_ok (v := v) hC
    repeat (refine J.skip ?_)
    refine J.seq (J.block ?_)
    repeat (first | refine Plan.move rfl rfl rfl rfl ?_ | refine Plan.assign rfl rfl rfl rfl ?_ | refine J.seq (J.region mixed hI (by kernel_rfl) ?_))
    refine Plan.indexAddr EvV.enc 26 l ev0 rfl rfl rfl rfl (Sub.old fun _ h => h) rfl eltE encE (by omega) (by omega) ?_
    rw [Int.toNat_natCast, hgd]
    refine Plan.loadAggP rfl rfl rfl rfl (Sub.refl _) Try.underlying86 rfl (by rw [encE]; kernel_rfl) ?_
    refine Plan.loadAggC (key := 1000) (q := 1) (vs := vList v) rfl rfl rfl rfl rfl rfl obj_whole Try.underlying42 rfl (by kernel_rfl) (by decide) ?_
    refine Plan.callC (key := 1000) (q := 0) rfl rfl rfl (offer_fn β B hB hBl l[i] hoi v hv) Try.func38 rfl rfl (by intro _ e; cases e; decide) (by repeat (first | exact Opnds.nil | refine Opnds.cons rfl (by exact Sub.refl _) ?_)) rfl hA rfl ?_
    rintro ⟨O, oc⟩ _
    repeat (refine Plan.assign rfl rfl rfl rfl ?_)
    refine J.sepC (key := 1000) (q := 0) rfl rfl ?_
    obtain ⟨out, hout⟩ : ∃ out, out = (toldE v (comeE l[i] v B)).1 := ⟨_, rfl⟩
    obtain ⟨B', hB'⟩ : ∃ B', B' = (toldE v (comeE l[i] v B)).2 := ⟨_, rfl⟩
    rw [← hout, ← hB'] at htl
    rw [← hout] at hte htk
    rw [← hB'] at hth
    rw [← hout, ← hB']
    repeat (first | refine Plan.move rfl rfl rfl rfl ?_ | refine J.seq (J.region mixed hI (by kernel_rfl) ?_))
    refine Plan.lenE rfl rfl rfl rfl Try.underlying73 ?_
    repeat (refine Plan.move rfl rfl rfl rfl ?_)
    refine J.block (J.loop (onK w0 l β c i v B' out O oc) (fun k => k ≤ out.length) (fun k => out.length - k) 0 (Nat.zero_le _) ?_ ?_)
    · repeat (first | exact Weak.nil | refine Weak.cons rfl (Sub.refl _) ?_)
    intro k hk
    repeat (first | (refine Plan.ints rfl rfl rfl rfl rfl rfl ?_; (skip)) | refine J.seq (J.region mixed hI (by kernel_rfl) ?_))
    refine J.seq (J.condD rfl (fun hck => ?_) (fun hck => ?_))
    · have hklt : k < out.length := by omega
      have hxk : out[k]? = some out[k] := List.getElem?_eq_getElem hklt
      obtain ⟨hmay, hrp, hxo⟩ := hte hxk
      have hr0 : 0 ≤ out[k].r ∧ out[k].r < 16 := ⟨hrp.1.1, hrp.1.2.1⟩
      refine J.factC (key := 1000) (q := 2) rfl rfl (fun w F h => row_room h) fun hrm => ?_
      obtain ⟨g, rfl⟩ : ∃ g, O = some ⟨g, 0, none⟩ := by
        cases O with
        | none => have := (hrm.2.2.2.1 rfl).1; omega
        | some ad => exact ⟨ad.block, by rw [← hrm.2.2.2.2 ad rfl]⟩
      have hat := flat_ev out hklt
      have hra : ((out.flatMap EvV.enc).drop (k * 26)).take out[k].enc.length = out[k].enc := by rw [hat, List.take_left]
      have hrr : (out.flatMap EvV.enc)[k * 26]? = some (vi out[k].r) := by
        have h1 : (out.flatMap EvV.enc)[k * 26]? = ((out.flatMap EvV.enc).drop (k * 26))[0]? := by rw [List.getElem?_drop]; rfl
        rw [h1, hat]; rfl
      have hrn : (out.flatMap EvV.enc)[k * 26 + 1]? = some (vi out[k].n) := by
        have h1 : (out.flatMap EvV.enc)[k * 26 + 1]? = ((out.flatMap EvV.enc).drop (k * 26))[1]? := by rw [List.getElem?_drop]
        rw [h1, hat]; rfl
      have hset : (vList (setAll v (out.take k))).set out[k].r.toNat (vi out[k].n) = vList (setAll v (out.take (k + 1))) := by
        rw [List.take_succ_eq_append_getElem hklt, setAll_snoc]
        exact set_vL _ _ (by omega)
      repeat (refine J.skip ?_)
      refine J.seq (J.block ?_)
      repeat (first | refine Plan.move rfl rfl rfl rfl ?_ | refine Plan.assign rfl rfl rfl rfl ?_ | refine J.seq (J.region mixed hI (by kernel_rfl) ?_) | refine J.seq (J.seq (J.region mixed hI (by kernel_rfl) ?_)))
      refine Plan.indexC (off := k * 26) rfl rfl rfl rfl rfl eltE hklt (by omega) ?_
      refine Plan.loadAggC (key := 1000) (q := 2) (off := k * 26) (vs := out[k].enc) rfl rfl rfl rfl rfl rfl (row_reads hra) Try.underlying86 rfl (by rw [encE]; kernel_rfl) (by decide) ?_
      refine Plan.call (B := w0.heap.size) rfl rfl rfl (refRight_fn out[k] hxo) Try.func41 rfl rfl (hBb w0) (by repeat (first | exact Opnds.nil | refine Opnds.cons rfl (by exact Sub.refl _) ?_)) ?_
      refine Plan.boolv (y := true) (decide_eq_true hrp) ?_
      repeat (first | refine Plan.move rfl rfl rfl rfl ?_ | refine Plan.un rfl rfl rfl rfl rfl ?_)
      refine Plan.indexC (off := k * 26) rfl rfl rfl rfl rfl eltE hklt (by omega) ?_
      refine Plan.loadAggC (key := 1000) (q := 2) (off := k * 26) (vs := out[k].enc) rfl rfl rfl rfl rfl rfl (row_reads hra) Try.underlying86 rfl (by rw [encE]; kernel_rfl) (by decide) ?_
      refine Plan.loadAggC (key := 1000) (q := 1) (vs := vList (setAll v (out.take k))) rfl rfl rfl rfl rfl rfl obj_whole Try.underlying42 rfl (by kernel_rfl) (by decide) ?_
      refine Plan.call (B := w0.heap.size) rfl rfl rfl (refMay_fn out[k] (setAll v (out.take k)) hr0) Try.func42 rfl rfl (hBb w0) (by repeat (first | exact Opnds.nil | refine Opnds.cons rfl (by exact Sub.refl _) ?_)) ?_
      rw [hmay]
      repeat (first | refine Plan.move rfl rfl rfl rfl ?_ | refine Plan.pick rfl rfl rfl rfl rfl ?_ | refine Plan.un rfl rfl rfl rfl rfl ?_ | refine J.region mixed hI (by kernel_rfl) ?_ | refine J.condF rfl ?_ | refine J.skip ?_)
      refine Plan.indexC (off := k * 26) rfl rfl rfl rfl rfl eltE hklt (by omega) ?_
      refine Plan.fieldC (off := k * 26) rfl rfl rfl rfl (by exact Try.underlying86) rfl (by kernel_rfl) rfl ?_
      refine Plan.fieldC (off := k * 26) rfl rfl rfl rfl (by exact Try.underlying28) rfl (by kernel_rfl) rfl ?_
      refine Plan.loadC (key := 1000) (q := 2) (off := k * 26) rfl rfl rfl rfl rfl rfl (row_reads1 hrr) Try.underlying3 rfl (by decide) ?_
      repeat (refine Plan.move rfl rfl rfl rfl ?_)
      refine Plan.indexC (off := k * 26) rfl rfl rfl rfl rfl eltE hklt (by omega) ?_
      refine Plan.fieldC (off := k * 26) rfl rfl rfl rfl (by exact Try.underlying86) rfl (by kernel_rfl) rfl ?_
      refine Plan.fieldC (off := k * 26 + 1) rfl rfl rfl rfl (by exact Try.underlying28) rfl (by kernel_rfl) rfl ?_
      refine Plan.loadC (key := 1000) (q := 2) (off := k * 26 + 1) rfl rfl rfl rfl rfl rfl (row_reads1 hrn) Try.underlying3 rfl (by decide) ?_
      refine Plan.indexArr (off := out[k].r.toNat) (len := 16) (sz := 1) rfl rfl rfl rfl rfl Try.underlying42 (by kernel_rfl) hr0.1 (by omega) (by simp) ?_
      refine Plan.storeC (key := 1000) (q := 1) rfl rfl rfl rfl rfl rfl (by simp [Value.cells, Value.oneCell']) (by kernel_rfl) rfl hA rfl (obj_pat1 (show out[k].r.toNat < 16 by omega)) ?_
      rw [hset]
      repeat (first | refine Plan.move rfl rfl rfl rfl ?_ | (refine Plan.ints rfl rfl rfl rfl rfl rfl ?_; (refine Plan.int (i64r (by omega)) ?_)) | refine J.region mixed hI (by kernel_rfl) ?_)
      refine Plan.int (y := ((k + 1 : Nat) : Int)) (by omega) ?_
      repeat (fail)
      exact Nrm.next (k + 1) (by omega) (by omega) (by repeat (first | exact Weak.nil | refine Weak.cons rfl (Sub.refl _) ?_))
    have hke : k = out.length := by omega
    subst hke
    refine J.exit ?_
    repeat (first | refine Plan.move rfl rfl rfl rfl ?_ | (refine Plan.ints rfl rfl rfl rfl rfl rfl ?_; (refine Plan.int (i64r (by omega)) ?_)) | refine J.region mixed hI (by kernel_rfl) ?_)
    refine Plan.int (y := ((i + 1 : Nat) : Int)) (by omega) ?_
    repeat (fail)
    refine Nrm.next (ok := fun s : Nat × (Nat → Int) × List (Dt × EvV) => s.1 ≤ l.length ∧ okV s.2.1 ∧ heldB s.2.2 ∧ s.2.2.length ≤ 64) (s := (i, v, B)) (i + 1, setAll v out, B') ⟨by simp only; omega, okV_all hv fun x hx => (htk x hx).2, hth, by simp only; omega⟩ (by simp only; omega) ?_
    exact Weak.cons rfl (Sub.refl _) (Weak.cons rfl (Sub.refl _) (Weak.cons rfl (Sub.refl _) (Weak.cons rfl (Sub.refl _) (Weak.cons rfl (Sub.refl _) (Weak.cons rfl (Sub.heap ((Ent.pickC [0, 1] rfl rfl).trans (Ent.sep (Ent.refl _) (Ent.sep (Ent.of_eq (by rw [List.take_length]; rfl)) (Ent.refl _))))) Weak.nil)))))
  refine J.exit ?_
  repeat (first | refine Plan.move rfl rfl rfl rfl ?_ | refine J.seq (J.region mixed hI (by kernel_rfl) ?_))
  refine Plan.callR (key := 1000) (B := 0) (q := 0) rfl rfl rfl (lenC_fn β B) Try.func40 rfl rfl (fun _ _ => Nat.zero_le _) (by repeat (first | exact Opnds.nil | refine Opnds.cons rfl (by exact Sub.refl _) ?_)) rfl rfl (by decide) ?_
  repeat (first | refine Plan.assign rfl rfl rfl rfl ?_ | (refine Plan.ints rfl rfl rfl rfl rfl rfl ?_; (skip)))
  refine Plan.boolv (y := true) (decide_eq_true (by omega)) ?_
  repeat (fail)
  exact J.ret (Nrm.ret1 rfl (fun _ h => h) rfl fun B _ => Sub.refl _)
theorem lawOnceC (ls : List (List Value)) (hl : ls.length ≤ 9223372036854775807) (hc : ∀ c ∈ ls, CellsOk kdsEvent c) :
    Spc Try.prog 10 [row 26 ls.flatten] fun _ => .ex (.bool true) := by
  obtain ⟨l, h1, h2, h3⟩ := evs_of ls hc
  rw [h2]
  exact lawOnce l (by omega) h3
end Go.Proofs.Ytkhcjedlopiicaa
