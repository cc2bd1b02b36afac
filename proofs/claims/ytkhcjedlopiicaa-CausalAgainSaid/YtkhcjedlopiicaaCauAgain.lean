/-
  The law CausalAgain returns true for all arguments.
-/
import Derived.Test.YtkhcjedlopiicaaCauOnce
set_option linter.unusedSimpArgs false
set_option linter.unusedVariables false
set_option maxRecDepth 20000
namespace Go.Proofs.Ytkhcjedlopiicaa
open Go.Free Go.RowKit Go.Proofs
set_option maxHeartbeats 8000000

structure AgS where
  i : Nat
  v : Nat → Int
  B : List (Dt × EvV)
  told : List EvV
  T : Option Addr
  tc : Nat
def agF (w0 : World) (l : List EvV) (times : Nat) (β c : Nat) (i : Nat) (v : Nat → Int) (B : List (Dt × EvV)) (told : List EvV) (T : Option Addr) (tc : Nat) : Env :=
  [(0, old w0 (evsC l)), (1, .ex (.int .u8 times)), (5, .ex (ptr β)), (6, .ex (ptr c)), (7, .ex (.slice T told.length tc)), (23, .ex (vi l.length)), (24, .ex (vi i)),
   (1000, heap (newB w0) [bagCE β B, obj c (vList v), rowEv T told.length tc (told.flatMap EvV.enc)])]
def agK (w0 : World) (l : List EvV) (times : Nat) (β c : Nat) (i : Nat) (v : Nat → Int) (B : List (Dt × EvV)) (told : List EvV) (T : Option Addr) (tc : Nat) (out : List EvV) (O : Option Addr) (oc : Nat) (k : Nat) : Env :=
  [(0, old w0 (evsC l)), (1, .ex (.int .u8 times)), (5, .ex (ptr β)), (6, .ex (ptr c)), (7, .ex (.slice T told.length tc)), (9, .ex (.slice O out.length oc)), (23, .ex (vi l.length)), (24, .ex (vi i)), (35, .ex (vi out.length)), (36, .ex (vi k)),
   (1000, heap (newB w0) [bagCE β B, obj c (vList (setAll v (out.take k))), rowEv T told.length tc (told.flatMap EvV.enc), rowEv O out.length oc (out.flatMap EvV.enc)])]
def agM (w0 : World) (β c : Nat) (v : Nat → Int) (B : List (Dt × EvV)) (told : List EvV) (T : Option Addr) (tc : Nat) (m q : Nat) : Env :=
  [(5, .ex (ptr β)), (6, .ex (ptr c)), (7, .ex (.slice T told.length tc)), (11, .ex (vi B.length)), (60, .ex (.int .u8 m)), (61, .ex (.int .u8 q)), (1000, heap (newB w0) [bagCE β B, obj c (vList v), rowEv T told.length tc (told.flatMap EvV.enc)])]
def agN (w0 : World) (β c : Nat) (v : Nat → Int) (B : List (Dt × EvV)) (told : List EvV) (T : Option Addr) (tc : Nat) (m q k : Nat) : Env :=
  [(5, .ex (ptr β)), (6, .ex (ptr c)), (7, .ex (.slice T told.length tc)), (11, .ex (vi B.length)), (60, .ex (.int .u8 m)), (61, .ex (.int .u8 q)), (64, .ex (vi told.length)), (65, .ex (vi k)), (1000, heap (newB w0) [bagCE β B, obj c (vList v), rowEv T told.length tc (told.flatMap EvV.enc)])]
theorem lawAgain (l : List EvV) (times : Nat) (hl : l.length ≤ 9223372036854775807) (ht : times ≤ 255) (hok : ∀ e ∈ l, e.okV) :
    Spc Try.prog 13 [evsC l, .ex (.int .u8 times)] fun _ => .ex (.bool true) := by
  refine Spc.intro Try.func13 rfl (Nat.le_of_ble_eq_true rfl) fun w0 => ?_
  have hI := hIb w0
  have hA := Own.below w0
  refine J.heap0 1000 (newB w0) ?_
  repeat (first | refine Plan.assign rfl rfl rfl rfl ?_ | refine J.seq (J.region mixed hI (by kernel_rfl) ?_) | refine J.seq (J.seq (J.region mixed hI (by kernel_rfl) ?_)))
  refine Plan.call (B := w0.heap.size) rfl rfl rfl (awakeC_fn) Try.func35 rfl rfl (hBb w0) (by repeat (exact Opnds.nil)) ?_
  repeat (first | refine Plan.move rfl rfl rfl rfl ?_ | refine Plan.un rfl rfl rfl rfl rfl ?_)
  refine Plan.lenRow (m := l.length) rfl rfl rfl rfl (Sub.old fun _ h => h) Try.underlying73 (by rw [flat_len encE]) (by decide) ?_
  repeat (first | refine Plan.pick rfl rfl rfl rfl rfl ?_ | (refine Plan.ints rfl rfl rfl rfl rfl rfl ?_; (skip)))
  refine J.condD rfl (fun hc => ?_) (fun hc => ?_)
  · repeat (refine J.seq (J.region mixed hI (by kernel_rfl) ?_))
    refine Plan.call (B := w0.heap.size) rfl rfl rfl (awakeC_fn) Try.func35 rfl rfl (hBb w0) (by repeat (exact Opnds.nil)) ?_
    repeat (refine Plan.assign rfl rfl rfl rfl ?_)
    exact J.ret (Nrm.ret1 rfl (fun _ h => h) rfl fun B _ => Sub.refl _)
  have hsm : l.length ≤ 150 := by omega
  repeat (first | refine J.seq (J.region mixed hI (by kernel_rfl) ?_) | refine J.skip ?_)
  refine Plan.callN (key := 1000) rfl rfl rfl (newC_fn) Try.func36 rfl rfl (by intro _ e; cases e; decide) (by repeat (exact Opnds.nil)) rfl hA ?_
  intro β _
  repeat (first | refine Plan.assign rfl rfl rfl rfl ?_ | refine J.seq (J.region mixed hI (by kernel_rfl) ?_))
  refine Plan.allocC (key := 1000) (z := .agg (vList zeroV).toArray) rfl rfl rfl (by intro _ e; cases e; decide) (by kernel_rfl) rfl hA fun c => ?_
  repeat (first | refine Plan.move rfl rfl rfl rfl ?_ | refine Plan.assign rfl rfl rfl rfl ?_ | refine J.seq (J.region mixed hI (by kernel_rfl) ?_) | refine J.seq (J.seq (J.region mixed hI (by kernel_rfl) ?_)))
  refine Plan.lenRow (m := l.length) rfl rfl rfl rfl (Sub.old fun _ h => h) Try.underlying73 (by rw [flat_len encE]) (by decide) ?_
  repeat (refine Plan.move rfl rfl rfl rfl ?_)
  refine J.nilRow (key := 1000) 86 26 rfl ?_
  refine J.block (J.loop (fun s : AgS => agF w0 l times β c s.i s.v s.B s.told s.T s.tc) (fun s => s.i ≤ l.length ∧ okV s.v ∧ heldB s.B ∧ s.B.length ≤ 64 ∧ s.told.length ≤ 64 * s.i ∧ (∀ x ∈ s.told, x.okV ∧ hasP s.v x.r x.n) ∧ (s.told = [] ∨ (nextE s.v s.B = none ∧ leftE s.v s.B = s.B))) (fun s => l.length - s.i) ⟨0, zeroV, [], [], none, 0⟩ ⟨Nat.zero_le _, zeroV_ok, held_nil, by simp, by simp, by simp, .inl rfl⟩ ?_ ?_)
  · repeat (first | exact Weak.nil | refine Weak.cons rfl (Sub.refl _) ?_)
  rintro ⟨i, v, B, told, T, tc⟩ ⟨hi, hv, hB, hBl, htl, hths, hend⟩
  simp only at hi hv hB hBl htl hths hend
  change J _ _ _ _ _ (agF w0 l times β c i v B told T tc)
  repeat (first | (refine Plan.ints rfl rfl rfl rfl rfl rfl ?_; (skip)) | refine J.seq (J.region mixed hI (by kernel_rfl) ?_))
  refine J.seq (J.condD rfl (fun hc => ?_) (fun hc => ?_))
  · have hlt : i < l.length := by omega
    have hx : l[i]? = some l[i] := List.getElem?_eq_getElem hlt
    have hgd : l.getD i ev0 = l[i] := by rw [List.getD_eq_getElem?_getD, hx]; rfl
    have hoi := hok _ (List.getElem_mem hlt)
    have hC := held_come (e := l[i]) (v := v) hB hoi
    have hCl := len_come64 (e := l[i]) (v := v) hBl
    have htl2 := told_len (v := v) hC
    have hte : ∀ (j : Nat) (x : EvV), (toldE v (comeE l[i] v B)).1[j]? = some x → _ := fun j x => told_each (j := j) (x := x) hC
    have hth := told_held (v := v) hC
    have hfin := told_end (v := v) hC
    have hall := all_le hv hte
    repeat (refine J.skip ?_)
    refine J.seq (J.block ?_)
    repeat (first | refine Plan.move rfl rfl rfl rfl ?_ | refine Plan.assign rfl rfl rfl rfl ?_ | refine J.seq (J.region mixed hI (by kernel_rfl) ?_))
    refine Plan.indexAddr EvV.enc 26 l ev0 rfl rfl rfl rfl (Sub.old fun _ h => h) rfl eltE encE (by omega) (by omega) ?_
    rw [Int.toNat_natCast, hgd]
    refine Plan.loadAggP rfl rfl rfl rfl (Sub.refl _) Try.underlying86 rfl (by rw [encE]; kernel_rfl) ?_
    refine Plan.loadAggC (key := 1000) (q := 1) (vs := vList v) rfl rfl rfl rfl rfl rfl obj_whole Try.underlying42 rfl (by kernel_rfl) (by decide) ?_
    refine Plan.callC (key := 1000) (q := 0) rfl rfl rfl (offer_fn β B hB hBl l[i] hoi v hv) Try.func38 rfl rfl (by intro _ e; cases e; decide) (by repeat (first | exact Opnds.nil | refine Opnds.cons rfl (by exact Sub.refl _) ?_)) rfl hA rfl ?_
    rintro ⟨O, oc⟩ _
    repeat (refine Plan.assign rfl rfl rfl rfl ?_)
    refine J.sepC (key := 1000) (q := 0) rfl rfl ?_
    obtain ⟨out, hout⟩ : ∃ out, out = (toldE v (comeE l[i] v B)).1 := ⟨_, rfl⟩
    obtain ⟨B', hB'⟩ : ∃ B', B' = (toldE v (comeE l[i] v B)).2 := ⟨_, rfl⟩
    rw [← hout, ← hB'] at htl2 hfin
    rw [← hout] at hte hall
    rw [← hB'] at hth
    rw [← hout, ← hB']
    repeat (first | refine Plan.move rfl rfl rfl rfl ?_ | refine J.seq (J.seq (J.region mixed hI (by kernel_rfl) ?_)))
    refine Plan.lenE rfl rfl rfl rfl Try.underlying73 ?_
    repeat (refine Plan.move rfl rfl rfl rfl ?_)
    refine J.block (J.loop (agK w0 l times β c i v B' told T tc out O oc) (fun k => k ≤ out.length) (fun k => out.length - k) 0 (Nat.zero_le _) ?_ ?_)
    · repeat (first | exact Weak.nil | refine Weak.cons rfl (Sub.refl _) ?_)
    intro k hk
    repeat (first | (refine Plan.ints rfl rfl rfl rfl rfl rfl ?_; (skip)) | refine J.seq (J.region mixed hI (by kernel_rfl) ?_))
    refine J.seq (J.condD rfl (fun hck => ?_) (fun hck => ?_))
    · have hklt : k < out.length := by omega
      have hxk : out[k]? = some out[k] := List.getElem?_eq_getElem hklt
      obtain ⟨hmay, hrp, hxo⟩ := hte k _ hxk
      have hr0 : 0 ≤ out[k].r ∧ out[k].r < 16 := ⟨hrp.1.1, hrp.1.2.1⟩
      refine J.factC (key := 1000) (q := 3) rfl rfl (fun w F h => row_room h) fun hrm => ?_
      obtain ⟨g, rfl⟩ : ∃ g, O = some ⟨g, 0, none⟩ := by
        cases O with
        | none => have := (hrm.2.2.2.1 rfl).1; omega
        | some ad => exact ⟨ad.block, by rw [← hrm.2.2.2.2 ad rfl]⟩
      have hat := flat_ev out hklt
      have hra : ((out.flatMap EvV.enc).drop (k * 26)).take out[k].enc.length = out[k].enc := by rw [hat, List.take_left]
      have hrr : (out.flatMap EvV.enc)[k * 26]? = some (vi out[k].r) := by
        have h1 : (out.flatMap EvV.enc)[k * 26]? = ((out.flatMap EvV.enc).drop (k * 26))[0]? := by rw [List.getElem?_drop]; rfl
        rw [h1, hat]; rfl
      have hrn : (out.flatMap EvV.enc)[k * 26 + 1]? = some (vi out[k].n) := by
        have h1 : (out.flatMap EvV.enc)[k * 26 + 1]? = ((out.flatMap EvV.enc).drop (k * 26))[1]? := by rw [List.getElem?_drop]
        rw [h1, hat]; rfl
      have hset : (vList (setAll v (out.take k))).set out[k].r.toNat (vi out[k].n) = vList (setAll v (out.take (k + 1))) := by
        rw [List.take_succ_eq_append_getElem hklt, setAll_snoc]
        exact set_vL _ _ (by omega)
      repeat (refine J.skip ?_)
      refine J.seq (J.block ?_)
      repeat (first | refine Plan.move rfl rfl rfl rfl ?_ | refine Plan.assign rfl rfl rfl rfl ?_ | refine J.seq (J.region mixed hI (by kernel_rfl) ?_) | refine J.region mixed hI (by kernel_rfl) ?_)
      refine Plan.indexC (off := k * 26) rfl rfl rfl rfl rfl eltE hklt (by omega) ?_
      refine Plan.fieldC (off := k * 26) rfl rfl rfl rfl (by exact Try.underlying86) rfl (by kernel_rfl) rfl ?_
      refine Plan.fieldC (off := k * 26) rfl rfl rfl rfl (by exact Try.underlying28) rfl (by kernel_rfl) rfl ?_
      refine Plan.loadC (key := 1000) (q := 3) (off := k * 26) rfl rfl rfl rfl rfl rfl (row_reads1 hrr) Try.underlying3 rfl (by decide) ?_
      repeat (refine Plan.move rfl rfl rfl rfl ?_)
      refine Plan.indexC (off := k * 26) rfl rfl rfl rfl rfl eltE hklt (by omega) ?_
      refine Plan.fieldC (off := k * 26) rfl rfl rfl rfl (by exact Try.underlying86) rfl (by kernel_rfl) rfl ?_
      refine Plan.fieldC (off := k * 26 + 1) rfl rfl rfl rfl (by exact Try.underlying28) rfl (by kernel_rfl) rfl ?_
      refine Plan.loadC (key := 1000) (q := 3) (off := k * 26 + 1) rfl rfl rfl rfl rfl rfl (row_reads1 hrn) Try.underlying3 rfl (by decide) ?_
      refine Plan.indexArr (off := out[k].r.toNat) (len := 16) (sz := 1) rfl rfl rfl rfl rfl Try.underlying42 (by kernel_rfl) hr0.1 (by omega) (by simp) ?_
      refine Plan.storeC (key := 1000) (q := 1) rfl rfl rfl rfl rfl rfl (by simp [Value.cells, Value.oneCell']) (by kernel_rfl) rfl hA rfl (obj_pat1 (show out[k].r.toNat < 16 by omega)) ?_
      rw [hset]
      repeat (first | refine Plan.move rfl rfl rfl rfl ?_ | (refine Plan.ints rfl rfl rfl rfl rfl rfl ?_; (refine Plan.int (i64r (by omega)) ?_)) | refine J.region mixed hI (by kernel_rfl) ?_)
      refine Plan.int (y := ((k + 1 : Nat) : Int)) (by omega) ?_
      repeat (fail)
      exact Nrm.next (k + 1) (by omega) (by omega) (by repeat (first | exact Weak.nil | refine Weak.cons rfl (Sub.refl _) ?_))
    have hke : k = out.length := by omega
    subst hke
    refine J.exit ?_
    refine J.seeC (t := 9) (key := 1000) (q := 3) rfl rfl rfl (fun w F h => row_rowH h) ?_
    repeat (first | refine Plan.move rfl rfl rfl rfl ?_ | refine J.region mixed hI (by kernel_rfl) ?_)
    refine Plan.appendC (key := 1000) (q := 2) (news := out.flatMap EvV.enc) rfl rfl rfl rfl rfl (Sub.refl _) eltE (by intro _ e; cases e; decide) rfl hA rfl (fun u hu => by
      obtain ⟨x, _, hx⟩ := List.mem_flatMap.1 hu
      exact encE_one x u hx) (by rw [flat_len encE, flat_len encE]; omega) fun T' m' tc' hm' => ?_
    have hm2 : m' = (told ++ out).length := by rw [flat_len encE, flat_len encE] at hm'; rw [List.length_append]; omega
    subst hm2
    have hrow : told.flatMap EvV.enc ++ out.flatMap EvV.enc = (told ++ out).flatMap EvV.enc := by rw [List.flatMap_append]
    rw [hrow]
    repeat (first | refine Plan.move rfl rfl rfl rfl ?_ | refine Plan.assign rfl rfl rfl rfl ?_ | (refine Plan.ints rfl rfl rfl rfl rfl rfl ?_; (refine Plan.int (i64r (by omega)) ?_)) | refine J.region mixed hI (by kernel_rfl) ?_)
    refine Plan.int (y := ((i + 1 : Nat) : Int)) (by omega) ?_
    repeat (fail)
    refine Nrm.next (ok := fun s : AgS => s.i ≤ l.length ∧ okV s.v ∧ heldB s.B ∧ s.B.length ≤ 64 ∧ s.told.length ≤ 64 * s.i ∧ (∀ x ∈ s.told, x.okV ∧ hasP s.v x.r x.n) ∧ (s.told = [] ∨ (nextE s.v s.B = none ∧ leftE s.v s.B = s.B))) (s := ⟨i, v, B, told, T, tc⟩) ⟨i + 1, setAll v out, B', told ++ out, T', tc'⟩ ⟨by simp only; omega, okV_all hv fun x hx => ?_, hth, by simp only; omega, by simp only [List.length_append]; omega, fun x hx => ?_, .inr hfin⟩ (by simp only; omega) ?_
    · obtain ⟨j, hj⟩ := List.mem_iff_getElem?.1 hx
      exact (hte j x hj).2.2
    · rcases List.mem_append.1 hx with hx | hx
      · exact ⟨(hths x hx).1, has_le hall.1 (hths x hx).2⟩
      · obtain ⟨j, hj⟩ := List.mem_iff_getElem?.1 hx
        exact ⟨(hte j x hj).2.2, hall.2 x hx⟩
    exact Weak.cons rfl (Sub.refl _) (Weak.cons rfl (Sub.refl _) (Weak.cons rfl (Sub.refl _) (Weak.cons rfl (Sub.refl _) (Weak.cons rfl (Sub.refl _) (Weak.cons rfl (Sub.refl _) (Weak.cons rfl (Sub.refl _) (Weak.cons rfl (Sub.heap ((Ent.pickC [0, 1, 2] rfl rfl).trans (Ent.sep (Ent.refl _) (Ent.sep (Ent.of_eq (by rw [List.take_length]; rfl)) (Ent.refl _))))) Weak.nil)))))))
  refine J.exit ?_
  repeat (first | refine Plan.move rfl rfl rfl rfl ?_ | refine J.seq (J.region mixed hI (by kernel_rfl) ?_))
  refine Plan.callR (key := 1000) (B := 0) (q := 0) rfl rfl rfl (lenC_fn β B) Try.func40 rfl rfl (fun _ _ => Nat.zero_le _) (by repeat (first | exact Opnds.nil | refine Opnds.cons rfl (by exact Sub.refl _) ?_)) rfl rfl (by decide) ?_
  repeat (first | refine Plan.move rfl rfl rfl rfl ?_ | refine Plan.assign rfl rfl rfl rfl ?_ | (refine Plan.ints rfl rfl rfl rfl rfl rfl ?_; (refine Plan.int (remN _ _) ?_)) | refine J.seq (J.seq (J.region mixed hI (by kernel_rfl) ?_)))
  have hm3 : times % 4 ≤ 3 := by omega
  refine J.block (J.loop (agM w0 β c v B told T tc (times % 4)) (fun q => q ≤ times % 4) (fun q => times % 4 - q) 0 (Nat.zero_le _) ?_ ?_)
  · repeat (first | exact Weak.nil | refine Weak.cons rfl (Sub.refl _) ?_)
  intro q hq
  repeat (first | (refine Plan.ints rfl rfl rfl rfl rfl rfl ?_; (skip)) | refine J.seq (J.region mixed hI (by kernel_rfl) ?_))
  refine J.seq (J.condD rfl (fun hcq => ?_) (fun hcq => ?_))
  · have hqm : q < times % 4 := by omega
    repeat (refine J.skip ?_)
    refine J.seq (J.block ?_)
    repeat (first | refine Plan.move rfl rfl rfl rfl ?_ | refine J.seq (J.region mixed hI (by kernel_rfl) ?_))
    refine Plan.lenE rfl rfl rfl rfl Try.underlying73 ?_
    repeat (refine Plan.move rfl rfl rfl rfl ?_)
    refine J.block (J.loop (agN w0 β c v B told T tc (times % 4) q) (fun k => k ≤ told.length) (fun k => told.length - k) 0 (Nat.zero_le _) ?_ ?_)
    · repeat (first | exact Weak.nil | refine Weak.cons rfl (Sub.refl _) ?_)
    intro k hk
    repeat (first | (refine Plan.ints rfl rfl rfl rfl rfl rfl ?_; (skip)) | refine J.seq (J.region mixed hI (by kernel_rfl) ?_))
    refine J.seq (J.condD rfl (fun hck => ?_) (fun hck => ?_))
    · have hklt : k < told.length := by omega
      have hxk := hths _ (List.getElem_mem hklt)
      obtain ⟨he1, he2⟩ : nextE v B = none ∧ leftE v B = B := by
        rcases hend with h | h
        · rw [h] at hklt; exact absurd hklt (Nat.not_lt_zero _)
        · exact h
      have ho := offer_fn β B hB hBl told[k] hxk.1 v hv
      rw [come_seen hxk.2, told_still hB he1 he2] at ho
      refine J.factC (key := 1000) (q := 2) rfl rfl (fun w F h => row_room h) fun hrm => ?_
      obtain ⟨g, rfl⟩ : ∃ g, T = some ⟨g, 0, none⟩ := by
        cases T with
        | none => have := (hrm.2.2.2.1 rfl).1; omega
        | some ad => exact ⟨ad.block, by rw [← hrm.2.2.2.2 ad rfl]⟩
      have hat := flat_ev told hklt
      have hra : ((told.flatMap EvV.enc).drop (k * 26)).take told[k].enc.length = told[k].enc := by rw [hat, List.take_left]
      repeat (refine J.skip ?_)
      refine J.seq (J.block ?_)
      repeat (first | refine Plan.move rfl rfl rfl rfl ?_ | refine Plan.assign rfl rfl rfl rfl ?_ | refine J.seq (J.region mixed hI (by kernel_rfl) ?_))
      refine Plan.indexC (off := k * 26) rfl rfl rfl rfl rfl eltE hklt (by omega) ?_
      refine Plan.loadAggC (key := 1000) (q := 2) (off := k * 26) (vs := told[k].enc) rfl rfl rfl rfl rfl rfl (row_reads hra) Try.underlying86 rfl (by rw [encE]; kernel_rfl) (by decide) ?_
      refine Plan.loadAggC (key := 1000) (q := 1) (vs := vList v) rfl rfl rfl rfl rfl rfl obj_whole Try.underlying42 rfl (by kernel_rfl) (by decide) ?_
      refine Plan.callC (key := 1000) (q := 0) rfl rfl rfl (ho) Try.func38 rfl rfl (by intro _ e; cases e; decide) (by repeat (first | exact Opnds.nil | refine Opnds.cons rfl (by exact Sub.refl _) ?_)) rfl hA rfl ?_
      rintro ⟨O, oc⟩ _
      refine Plan.lenE rfl rfl rfl rfl Try.underlying73 ?_
      repeat (first | refine Plan.move rfl rfl rfl rfl ?_ | (refine Plan.ints rfl rfl rfl rfl rfl rfl ?_; (skip)))
      refine Plan.callRG (key := 1000) (B := 0) rfl rfl rfl (lenC_fn β B) Try.func40 rfl rfl (fun _ _ => Nat.zero_le _) (by repeat (first | exact Opnds.nil | refine Opnds.cons rfl (by exact Sub.refl _) ?_)) rfl (Ent.left.trans Ent.left) (by decide) ?_
      repeat (first | refine Plan.move rfl rfl rfl rfl ?_ | refine Plan.pick rfl rfl rfl rfl rfl ?_ | (refine Plan.ints rfl rfl rfl rfl rfl rfl ?_; (skip)))
      refine Plan.boolv (y := false) (decide_eq_false (by omega)) ?_
      repeat (first | refine Plan.move rfl rfl rfl rfl ?_ | (refine Plan.ints rfl rfl rfl rfl rfl rfl ?_; (refine Plan.int (i64r (by omega)) ?_)) | refine J.region mixed hI (by kernel_rfl) ?_ | refine J.condF rfl ?_ | refine J.skip ?_)
      refine Plan.int (y := ((k + 1 : Nat) : Int)) (by omega) ?_
      repeat (fail)
      refine Nrm.next (k + 1) (by omega) (by omega) ?_
      exact Weak.cons rfl (Sub.refl _) (Weak.cons rfl (Sub.refl _) (Weak.cons rfl (Sub.refl _) (Weak.cons rfl (Sub.refl _) (Weak.cons rfl (Sub.refl _) (Weak.cons rfl (Sub.refl _) (Weak.cons rfl (Sub.refl _) (Weak.cons rfl (Sub.refl _) (Weak.cons rfl (Sub.heap (Ent.sep Ent.left (Ent.refl _))) Weak.nil))))))))
    refine J.exit ?_
    repeat (first | refine Plan.move rfl rfl rfl rfl ?_ | (refine Plan.ints rfl rfl rfl rfl rfl rfl ?_; (refine Plan.int (u8r (by omega)) ?_)) | refine J.region mixed hI (by kernel_rfl) ?_)
    refine Plan.int (y := ((q + 1 : Nat) : Int)) (by omega) ?_
    repeat (fail)
    exact Nrm.next (q + 1) (by omega) (by omega) (by repeat (first | exact Weak.nil | refine Weak.cons rfl (Sub.refl _) ?_))
  refine J.exit ?_
  repeat (first | refine Plan.assign rfl rfl rfl rfl ?_ | refine J.seq (J.region mixed hI (by kernel_rfl) ?_))
  exact J.ret (Nrm.ret1 rfl (fun _ h => h) rfl fun B _ => Sub.refl _)
theorem lawAgainC (ls : List (List Value)) (times : Int) (hl : ls.length ≤ 9223372036854775807) (hc : ∀ c ∈ ls, CellsOk kdsEvent c) (ht : 0 ≤ times ∧ times ≤ 255) :
    Spc Try.prog 13 [row 26 ls.flatten, .ex (.int .u8 times)] fun _ => .ex (.bool true) := by
  obtain ⟨l, h1, h2, h3⟩ := evs_of ls hc
  obtain ⟨n, rfl⟩ : ∃ n : Nat, times = n := ⟨times.toNat, by omega⟩
  rw [h2]
  exact lawAgain l n (by omega) (by omega) h3
end Go.Proofs.Ytkhcjedlopiicaa
