/-
  Laid together: AofCrs.
-/
import Derived.Test.YtepgphflnelpoaaAofI

section
set_option linter.unusedSimpArgs false
set_option linter.unusedVariables false
set_option maxRecDepth 20000
namespace Go.Proofs.Ytepgphflnelpoaa
open Go.Free Go.RowKit Go.Proofs
set_option maxHeartbeats 8000000

theorem enc8_one {o : OpV8} (h : o.okV) : ∀ u ∈ o.enc, u.oneCell' = true := by
  obtain ⟨A, c, hv⟩ := h.2.2.2.2.2.2.2.2
  intro u hu
  unfold OpV8.enc at hu
  rcases List.mem_append.1 hu with hu | hu
  · rcases List.mem_append.1 hu with hu | hu
    · simp only [List.mem_cons, List.not_mem_nil, or_false] at hu
      rcases hu with rfl | rfl | rfl | rfl <;> rfl
    · exact encE_one _ u hu
  · simp only [List.mem_cons, List.not_mem_nil, or_false] at hu
    rcases hu with rfl | rfl
    · rfl
    · rw [hv]; rfl
theorem laid_df {m : LogV} {fl : Nat} {l : List UInt8} {df : Nat} (h : LaidA m fl l df) : df ≤ l.length := by
  rw [h.fast, h.bytes]
  have : frames (bodOf m) = frames ((bodOf m).take ((if m.b = true then 1 else 0) + fl)) ++ frames ((bodOf m).drop ((if m.b = true then 1 else 0) + fl)) := by rw [← frames_append, List.take_append_drop]
  have := congrArg List.length this
  rw [List.length_append] at this; omega
theorem crash_len (l : List UInt8) (f : Nat) (k a t : Int) (hf : f ≤ l.length) : (crashOf l f k a t).length ≤ l.length := by
  unfold crashOf
  rw [List.length_append, tail_length, List.length_take, List.length_take, List.length_drop]; omega
theorem evs_take (M : List EvV) (j : Nat) (hj : j ≤ M.length) : (evsC M).take (j * 26) = evsC (M.take j) := by
  have h1 : evsC M = evsC (M.take j) ++ evsC (M.drop j) := by
    conv => lhs; rw [← List.take_append_drop j M]
    show List.flatMap _ _ = _
    rw [List.flatMap_append]
  rw [h1, List.take_left' (by rw [evs_len, List.length_take]; omega)]
def crE (w0 : World) (u : Value) (k a t : Int) (e : EvV) (α γ β : Nat) (sc : List OpV8) (x : Nat × LogV × Nat × List UInt8 × Nat) : Env :=
  [(0, .ex u), (1, .ex (vi k)), (2, .ex (vi a)), (3, .ex (vi t)), (9, .ex (ptr α)), (11, .ex (ptr γ)), (12, .ex (ptr β)), (41, .ex (vi sc.length)), (42, .ex (vi x.1)),
   (1000, heap (newB w0) [obj α e.enc, logC γ β x.2.1 x.2.2.1, diskC β x.2.2.2.1 x.2.2.2.2 65536])]
theorem add_bounds2 {m : LogV} {l : List UInt8} {r : Nat} {e : EvV} (hl : l.length ≤ r) : (addM m l r e).1.l.length ≤ m.l.length + 1 ∧ (addM m l r e).2.1.length ≤ r := by
  unfold addM
  split
  · split
    · rename_i h
      exact ⟨by simp, by rw [List.length_append]; exact h⟩
    · exact ⟨Nat.le_succ _, hl⟩
  · exact ⟨Nat.le_succ _, hl⟩
theorem rw_bounds {m : LogV} {f : Nat} {l : List UInt8} {df r : Nat} {s : List UInt8} {L : List EvV} (hl : l.length ≤ r) (hL : L.length ≤ 100) : (rwM m f l df r s L).1.1.l.length ≤ max m.l.length 100 ∧ (rwM m f l df r s L).2.1.1.length ≤ r := by
  unfold rwM
  split
  · exact ⟨Nat.le_max_left _ _, hl⟩
  · split
    · exact ⟨Nat.le_max_left _ _, hl⟩
    · split
      · rename_i h; exact ⟨Nat.le_trans hL (Nat.le_max_right _ _), h⟩
      · exact ⟨Nat.le_max_left _ _, hl⟩
theorem lawCr (sc : List OpV8) (k a t : Int) (e : EvV) (hl : sc.length ≤ 9223372036854775807) (hok : ∀ o ∈ sc, o.okV) (hk : in64 k) (ha : in64 a) (ht : in64 t) (he : e.okV) :
    Spc Try.prog 6 [ops8F sc, .ex (vi k), .ex (vi a), .ex (vi t), .ex (aggE e)] fun _ => .ex (.bool true) := by
  refine Spc.intro Try.func6 rfl (Nat.le_of_ble_eq_true rfl) fun w0 => ?_
  have hI := hIb w0
  have hA := Own.below w0
  refine J.nameOld (t := 0) rfl fun u hu => ?_
  have hs8 := sub8 hu
  have hbg := begun_fn 65536
  have hc : clampR 65536 = 65536 := by decide
  rw [hc] at hbg
  refine J.heap0 1000 (newB w0) ?_
  repeat (refine J.seq (J.region mixed hI (by kernel_rfl) ?_))
  refine Plan.boxC (key := 1000) rfl rfl rfl (by intro _ e; cases e; decide) rfl rfl hA fun α => ?_
  repeat (first | refine Plan.assign rfl rfl rfl rfl ?_ | refine J.seq (J.seq (J.region mixed hI (by kernel_rfl) ?_)))
  refine Plan.call (B := w0.heap.size) rfl rfl rfl (awakeL_fn) Try.func9 rfl rfl (hBb w0) (by repeat (exact Opnds.nil)) ?_
  repeat (first | refine Plan.move rfl rfl rfl rfl ?_ | refine Plan.un rfl rfl rfl rfl rfl ?_)
  refine Plan.call (B := w0.heap.size) rfl rfl rfl (few8_fn sc hl hok) Try.func19 rfl rfl (hBb w0) (Opnds.cons rfl (sub8F hu) Opnds.nil) ?_
  cases hfw : few8 sc with
  | false =>
    repeat (first | refine Plan.pick rfl rfl rfl rfl rfl ?_ | refine Plan.un rfl rfl rfl rfl rfl ?_ | refine J.seq (J.region mixed hI (by kernel_rfl) ?_) | refine J.condT rfl ?_)
    refine Plan.call (B := w0.heap.size) rfl rfl rfl (awakeL_fn) Try.func9 rfl rfl (hBb w0) (by repeat (exact Opnds.nil)) ?_
    repeat (refine Plan.assign rfl rfl rfl rfl ?_)
    exact J.ret (Nrm.ret1 rfl (fun _ h => h) rfl fun B _ => Sub.refl _)
  | true =>
  obtain ⟨hsc, hfo⟩ := few8_iff.1 hfw
  repeat (first | refine Plan.pick rfl rfl rfl rfl rfl ?_ | refine Plan.un rfl rfl rfl rfl rfl ?_ | refine J.seq (J.region mixed hI (by kernel_rfl) ?_) | refine J.condF rfl ?_ | refine J.skip ?_)
  refine Plan.callN (key := 1000) rfl rfl rfl (hbg) Try.func17 rfl rfl (by intro _ e; cases e; decide) (by repeat (first | exact Opnds.nil | refine Opnds.cons rfl (by exact Sub.refl _) ?_)) rfl hA ?_
  rintro ⟨γ, β⟩ _
  repeat (first | refine Plan.move rfl rfl rfl rfl ?_ | refine Plan.assign rfl rfl rfl rfl ?_ | refine Plan.extract rfl rfl rfl rfl rfl ?_)
  refine J.regroup (key := 1000) [obj α e.enc, logC γ β log0 0, diskC β [] 0 65536] rfl (Ent.sep (Ent.refl _) Ent.one) ?_
  repeat (first | refine Plan.move rfl rfl rfl rfl ?_ | refine Plan.eqlPtr rfl rfl rfl rfl (by kernel_rfl) ?_ | refine J.seq (J.seq (J.region mixed hI (by kernel_rfl) ?_)) | refine J.condF rfl ?_ | refine J.skip ?_)
  refine Plan.lenRow (m := sc.length) rfl rfl rfl rfl hs8 Try.underlying53 (by rw [ops8_len]) (by decide) ?_
  repeat (refine Plan.move rfl rfl rfl rfl ?_)
  refine J.block (J.loop (crE w0 u k a t e α γ β sc) (fun x => x.1 ≤ sc.length ∧ x.2.1.l.length ≤ 100 + x.1 ∧ x.2.2.2.1.length ≤ 65536 ∧ LaidA x.2.1 x.2.2.1 x.2.2.2.1 x.2.2.2.2) (fun x => sc.length - x.1) (0, log0, 0, [], 0) ⟨Nat.zero_le _, Nat.zero_le _, Nat.zero_le _, laid0⟩ ?_ ?_)
  · repeat (first | exact Weak.nil | refine Weak.cons rfl (Sub.refl _) ?_)
  rintro ⟨i, m, fl, l, df⟩ ⟨hi, hml, hll, hla⟩
  simp only at hi hml hll hla
  change J _ _ _ _ _ (crE w0 u k a t e α γ β sc (i, m, fl, l, df))
  repeat (first | (refine Plan.ints rfl rfl rfl rfl rfl rfl ?_; (skip)) | refine J.seq (J.region mixed hI (by kernel_rfl) ?_))
  refine J.seq (J.condD rfl (fun hc => ?_) (fun hc => ?_))
  · have hlt : i < sc.length := by
      dsimp only at hc; omega
    obtain ⟨o, hoe⟩ : ∃ o, o = sc[i] := ⟨_, rfl⟩
    have hget : sc.getD i op80 = o := by simp [hoe, List.getD_eq_getElem?_getD, List.getElem?_eq_getElem hlt]
    have hoM : o ∈ sc := hoe ▸ List.getElem_mem hlt
    have hov := hok o hoM
    have hof := hfo o hoM
    repeat (refine J.skip ?_)
    refine J.seq (J.block ?_)
    repeat (first | refine Plan.move rfl rfl rfl rfl ?_ | refine Plan.assign rfl rfl rfl rfl ?_ | refine J.seq (J.region mixed hI (by kernel_rfl) ?_))
    refine Plan.indexAddr OpV8.enc 32 sc op80 rfl rfl rfl rfl hs8 rfl elt8 enc8 (by omega) (by dsimp only; omega) ?_
    rw [Int.toNat_natCast, hget]
    refine Plan.loadAggP rfl rfl rfl rfl (Sub.refl _) Try.underlying51 rfl (by rw [enc8]; kernel_rfl) ?_
    refine Plan.allocC (key := 1000) (z := .agg op80.enc.toArray) rfl rfl rfl (by intro _ e; cases e; decide) (by kernel_rfl) rfl hA fun ξ => ?_
    refine Plan.storeC (key := 1000) (q := 3) (off := 0) rfl rfl rfl rfl rfl rfl (enc8_one hov) (by show _ = some o.enc.toArray.size; kernel_rfl) rfl hA rfl (obj_pat (Nat.le_of_ble_eq_true rfl)) ?_
    repeat (first | refine Plan.fieldC rfl rfl rfl rfl (by first | exact Try.underlying74 | exact Try.underlying51) rfl (by kernel_rfl) (by exact (rfl : _ = 0)) ?_ | refine J.seq (J.region mixed hI (by kernel_rfl) ?_))
    refine Plan.loadC (key := 1000) (q := 3) rfl rfl rfl rfl rfl rfl (obj_reads1 rfl) (by exact Try.underlying3) (by rfl) (by decide) ?_
    repeat (fail)
    refine J.block ?_
    repeat (first | refine Plan.assign rfl rfl rfl rfl ?_ | (refine Plan.ints rfl rfl rfl rfl rfl rfl ?_; (skip)) | refine J.seq (J.region mixed hI (by kernel_rfl) ?_))
    refine J.condE rfl (fun k1 => ?_) (fun k1 => ?_)
    · repeat (first | refine Plan.move rfl rfl rfl rfl ?_ | refine Plan.fieldC rfl rfl rfl rfl (by first | exact Try.underlying74 | exact Try.underlying51) rfl (by kernel_rfl) (by exact (rfl : _ = 4)) ?_ | refine J.region mixed hI (by kernel_rfl) ?_)
      refine Plan.loadAggC (key := 1000) (q := 3) (off := 4) (vs := o.e.enc) rfl rfl rfl rfl rfl rfl (obj_reads rfl) Try.underlying48 rfl (by rw [encE]; kernel_rfl) (by decide) ?_
      have hab := add_bounds2 (m := m) (l := l) (r := 65536) (e := o.e) hll
      have hla2 := laid_add (r := 65536) hla o.e
      have had := add_fn γ β m fl l df 65536 o.e hov.2.2.2.2.1 (by omega) hll (Nat.le_refl _)
      generalize addM m l 65536 o.e = ad at *
      refine Plan.callL (key := 1000) [1, 2] [0, 3] rfl rfl rfl (had) Try.func21 rfl rfl (by intro _ e; cases e; decide) (by repeat (first | exact Opnds.nil | refine Opnds.cons rfl (by exact Sub.refl _) ?_)) rfl hA rfl rfl rfl ?_
      intro _ _
      repeat (first | refine Plan.move rfl rfl rfl rfl ?_ | (refine Plan.ints rfl rfl rfl rfl rfl rfl ?_; (refine Plan.int (i64r (by omega)) ?_)) | refine J.region mixed hI (by kernel_rfl) ?_)
      refine Plan.int (y := ((i + 1 : Nat) : Int)) (by omega) ?_
      repeat (fail)
      refine Plan.regroup [obj α e.enc, logC γ β ad.1 fl, diskC β ad.2.1 df 65536] (by kernel_rfl) hI (key := 1000) rfl (Ent.pickC [2, 0, 1] rfl rfl) ?_
      exact Nrm.next (i + 1, ad.1, fl, ad.2.1, df) ⟨by dsimp only; omega, by dsimp only; omega, hab.2, hla2⟩ (by dsimp only; omega) (by repeat (first | exact Weak.nil | refine Weak.cons rfl (Sub.refl _) ?_))
    repeat (first | refine Plan.assign rfl rfl rfl rfl ?_ | (refine Plan.ints rfl rfl rfl rfl rfl rfl ?_; (skip)) | refine J.seq (J.region mixed hI (by kernel_rfl) ?_))
    refine J.condE rfl (fun k2 => ?_) (fun k2 => ?_)
    · repeat (first | refine Plan.move rfl rfl rfl rfl ?_ | refine J.region mixed hI (by kernel_rfl) ?_)
      refine Plan.callL (key := 1000) [1, 2] [0, 3] rfl rfl rfl (log_Sync γ β m fl l df 65536 (by omega)) Try.func20 rfl rfl (by intro _ e; cases e; decide) (by repeat (first | exact Opnds.nil | refine Opnds.cons rfl (by exact Sub.refl _) ?_)) rfl hA rfl rfl rfl ?_
      intro _ _
      repeat (first | refine Plan.move rfl rfl rfl rfl ?_ | (refine Plan.ints rfl rfl rfl rfl rfl rfl ?_; (refine Plan.int (i64r (by omega)) ?_)) | refine J.region mixed hI (by kernel_rfl) ?_)
      refine Plan.int (y := ((i + 1 : Nat) : Int)) (by omega) ?_
      repeat (fail)
      refine Plan.regroup [obj α e.enc, logC γ β m m.l.length, diskC β l l.length 65536] (by kernel_rfl) hI (key := 1000) rfl (Ent.pickC [2, 0, 1] rfl rfl) ?_
      exact Nrm.next (i + 1, m, m.l.length, l, l.length) ⟨by dsimp only; omega, by dsimp only; omega, hll, laid_sync hla⟩ (by dsimp only; omega) (by repeat (first | exact Weak.nil | refine Weak.cons rfl (Sub.refl _) ?_))
    repeat (first | refine Plan.assign rfl rfl rfl rfl ?_ | (refine Plan.ints rfl rfl rfl rfl rfl rfl ?_; (skip)) | refine J.seq (J.region mixed hI (by kernel_rfl) ?_))
    refine J.condE rfl (fun k3 => ?_) (fun k3 => ?_)
    · repeat (first | refine Plan.move rfl rfl rfl rfl ?_ | refine J.region mixed hI (by kernel_rfl) ?_)
      refine Plan.fieldC (off := 30) rfl rfl rfl rfl (by exact Try.underlying51) rfl (by kernel_rfl) rfl ?_
      refine Plan.loadC (key := 1000) (q := 3) rfl rfl rfl rfl rfl rfl (obj_reads1 rfl) (by exact Try.underlying9) (by rfl) (by decide) ?_
      refine Plan.fieldC (off := 31) rfl rfl rfl rfl (by exact Try.underlying51) rfl (by kernel_rfl) rfl ?_
      refine Plan.loadC (key := 1000) (q := 3) rfl rfl rfl rfl rfl rfl (obj_reads1 rfl) (by exact Try.underlying35) (by rfl) (by decide) ?_
      have hrb := rw_bounds (m := m) (f := fl) (df := df) (s := o.s) hll hof.2
      have hla2 := laid_rw (r := 65536) (s := o.s) (L := o.L) hla
      have hrw : SpcC Try.prog 18 [.ex (ptr γ), .ex (str o.s), .ex o.v] (allC ([logC γ β m fl, diskC β l df 65536] ++ [frozenC w0 fun b => b < w0.heap.size])) (fun _ : Unit => True) (fun _ => .ex (vi (rwM m fl l df 65536 o.s o.L).2.2))
        (fun _ => allC ([logC γ β (rwM m fl l df 65536 o.s o.L).1.1 (rwM m fl l df 65536 o.s o.L).1.2, diskC β (rwM m fl l df 65536 o.s o.L).2.1.1 (rwM m fl l df 65536 o.s o.L).2.1.2 65536] ++ [frozenC w0 fun b => b < w0.heap.size])) :=
        rewrite_fn γ β m fl l df 65536 o.s o.L o.v w0 (fun b => b < w0.heap.size) (frozen_row (hu.2 o hoM) fun b hb => hb) (by omega) (by omega) hov.2.2.2.2.2.2.2.1
      generalize rwM m fl l df 65536 o.s o.L = rw at *
      refine Plan.callFz (key := 1000) [1, 2] [0, 3] rfl rfl rfl hrw Try.func18 rfl rfl (by intro _ e; cases e; decide) (by repeat (first | exact Opnds.nil | refine Opnds.cons rfl (by exact Sub.refl _) ?_)) rfl hA rfl rfl rfl below_froz (fun b hb hb2 => by simp only [newB] at hb; omega) ?_
      intro _ _
      repeat (first | refine Plan.move rfl rfl rfl rfl ?_ | (refine Plan.ints rfl rfl rfl rfl rfl rfl ?_; (refine Plan.int (i64r (by omega)) ?_)) | refine J.region mixed hI (by kernel_rfl) ?_)
      refine Plan.int (y := ((i + 1 : Nat) : Int)) (by omega) ?_
      repeat (fail)
      refine Plan.regroup [obj α e.enc, logC γ β rw.1.1 rw.1.2, diskC β rw.2.1.1 rw.2.1.2 65536] (by kernel_rfl) hI (key := 1000) rfl (Ent.pickC [2, 0, 1] rfl rfl) ?_
      exact Nrm.next (i + 1, rw.1.1, rw.1.2, rw.2.1.1, rw.2.1.2) ⟨by dsimp only; omega, by dsimp only; omega, hrb.2, hla2⟩ (by dsimp only; omega) (by repeat (first | exact Weak.nil | refine Weak.cons rfl (Sub.refl _) ?_))
    · repeat (first | refine Plan.move rfl rfl rfl rfl ?_ | (refine Plan.ints rfl rfl rfl rfl rfl rfl ?_; (refine Plan.int (i64r (by omega)) ?_)) | refine J.region mixed hI (by kernel_rfl) ?_ | refine J.skip ?_)
      refine Plan.int (y := ((i + 1 : Nat) : Int)) (by omega) ?_
      repeat (fail)
      refine Plan.regroup [obj α e.enc, logC γ β m fl, diskC β l df 65536] (by kernel_rfl) hI (key := 1000) rfl (Ent.pickC [0, 1, 2] rfl rfl) ?_
      exact Nrm.next (i + 1, m, fl, l, df) ⟨by dsimp only; omega, by dsimp only; omega, hll, hla⟩ (by dsimp only; omega) (by repeat (first | exact Weak.nil | refine Weak.cons rfl (Sub.refl _) ?_))
  · refine J.exit ?_
    have hdf := laid_df hla
    have hcl := crash_len l df k a t hdf
    obtain ⟨j, hj1, hj2, hop, htk⟩ := laid_crash hla k a t
    obtain ⟨M, hM⟩ : ∃ M, M = m.l.take j := ⟨_, rfl⟩
    rw [← hM] at hop htk
    have hMl : M.length = j := by rw [hM, List.length_take]; omega
    have hMr : ∀ x ∈ M, rightP x := fun x hx => hla.right x (by rw [hM] at hx; exact List.mem_of_mem_take hx)
    have hMe : evsC (reL M) = evsC M := evs_re hMr
    have hRl : (reL M).length = j := by simp [reL, hMl]
    have hal : (evsC m.l).take (j * 26) = evsC M := by rw [hM]; exact evs_take m.l j hj2
    have hre : evsC (reL M) = evsC M ∧ ∀ x ∈ reL M, x.okV := ⟨hMe, re_ok M⟩
    have hsame := sameE_fn (reL M) (by omega) hre.2
    rw [hMe] at hsame
    obtain ⟨l1, hl1⟩ : ∃ l1, l1 = frames (bodOf ⟨m.s, m.b, M⟩) := ⟨_, rfl⟩
    rw [← hl1] at hop htk
    have hl1l : l1.length ≤ 65536 := by
      have := congrArg List.length htk
      rw [List.length_take] at this; omega
    obtain ⟨R, hR⟩ : ∃ R, R = reL M := ⟨_, rfl⟩
    rw [← hR] at hop hRl hMe hre
    have hcr := disk_Crash β l df 65536 k a t hll hdf hk ha ht
    have hopn := open_fn β (crashOf l df k a t) (crashOf l df k a t).length 65536 (by omega)
    rw [hop] at hopn
    simp only [htk] at hopn
    generalize hfd : (if l1.length < (crashOf l df k a t).length then l1.length else (crashOf l df k a t).length) = fd at hopn
    repeat (first | refine Plan.move rfl rfl rfl rfl ?_ | refine J.seq (J.region mixed hI (by kernel_rfl) ?_))
    refine Plan.callRO (key := 1000) rfl rfl rfl (log_Events γ β m fl (by omega)) (fun _ => rfl) Try.func16 rfl rfl (by intro _ e; cases e; decide) (by repeat (first | exact Opnds.nil | refine Opnds.cons rfl (by exact Sub.refl _) ?_)) rfl hA (Ent.right.trans Ent.left) fun B1 m1 c1 hm1 => ?_
    obtain rfl : m1 = m.l.length := by rw [evs_len] at hm1; omega
    repeat (refine Plan.move rfl rfl rfl rfl ?_)
    refine Plan.callR (key := 1000) (B := 0) (q := 1) rfl rfl rfl (log_Fast γ β m fl) Try.func22 rfl rfl (fun _ _ => Nat.zero_le _) (by repeat (first | exact Opnds.nil | refine Opnds.cons rfl (by exact Sub.refl _) ?_)) rfl rfl (by decide) ?_
    repeat (first | refine Plan.move rfl rfl rfl rfl ?_ | refine Plan.assign rfl rfl rfl rfl ?_ | refine J.seq (J.region mixed hI (by kernel_rfl) ?_))
    refine Plan.callR (key := 1000) (B := 0) (q := 1) rfl rfl rfl (log_Snapshot γ β m fl) Try.func14 rfl rfl (fun _ _ => Nat.zero_le _) (by repeat (first | exact Opnds.nil | refine Opnds.cons rfl (by exact Sub.refl _) ?_)) rfl rfl (by decide) ?_
    repeat (first | refine Plan.move rfl rfl rfl rfl ?_ | refine Plan.assign rfl rfl rfl rfl ?_ | refine Plan.extract rfl rfl rfl rfl rfl ?_ | refine J.seq (J.region mixed hI (by kernel_rfl) ?_))
    refine Plan.callC (key := 1000) (q := 2) rfl rfl rfl (hcr) Try.func23 rfl rfl (by intro _ e; cases e; decide) (by repeat (first | exact Opnds.nil | refine Opnds.cons rfl (by exact Sub.refl _) ?_)) rfl hA rfl ?_
    intro _ _
    repeat (first | refine Plan.move rfl rfl rfl rfl ?_ | refine J.seq (J.region mixed hI (by kernel_rfl) ?_))
    refine Plan.callC (key := 1000) (q := 2) rfl rfl rfl (hopn) Try.func12 rfl rfl (by intro _ e; cases e; decide) (by repeat (first | exact Opnds.nil | refine Opnds.cons rfl (by exact Sub.refl _) ?_)) rfl hA rfl ?_
    intro δ _
    repeat (first | refine Plan.move rfl rfl rfl rfl ?_ | refine Plan.assign rfl rfl rfl rfl ?_ | refine Plan.extract rfl rfl rfl rfl rfl ?_)
    refine J.regroup (key := 1000) [obj α e.enc, logC γ β m fl, logC δ β ⟨m.s, m.b, R⟩ R.length, diskC β l1 fd 65536, rowEv B1 m.l.length c1 (evsC m.l)] rfl (Ent.sep (Ent.refl _) (Ent.sep (Ent.refl _) (Ent.joinC (H1 := [_, _])))) ?_
    repeat (first | refine Plan.move rfl rfl rfl rfl ?_ | refine Plan.pick rfl rfl rfl rfl rfl ?_ | (refine Plan.ints rfl rfl rfl rfl rfl rfl ?_; (skip)) | refine Plan.eqlPtr rfl rfl rfl rfl (by kernel_rfl) ?_ | refine J.seq (J.region mixed hI (by kernel_rfl) ?_) | refine J.seq (J.seq (J.region mixed hI (by kernel_rfl) ?_)) | refine J.condF rfl ?_ | refine J.skip ?_)
    refine Plan.callRO (key := 1000) rfl rfl rfl (log_Events δ β ⟨m.s, m.b, R⟩ R.length (by dsimp only; omega)) (fun _ => rfl) Try.func16 rfl rfl (by intro _ e; cases e; decide) (by repeat (first | exact Opnds.nil | refine Opnds.cons rfl (by exact Sub.refl _) ?_)) rfl hA (Ent.right.trans (Ent.right.trans Ent.left)) fun B2 m2 c2 hm2 => ?_
    obtain rfl : m2 = j := by rw [evs_len] at hm2; dsimp only at hm2; omega
    rw [hMe]
    repeat (first | refine Plan.move rfl rfl rfl rfl ?_ | refine Plan.assign rfl rfl rfl rfl ?_ | refine J.seq (J.region mixed hI (by kernel_rfl) ?_))
    refine Plan.callR (key := 1000) (B := 0) (q := 2) rfl rfl rfl (log_Snapshot δ β ⟨m.s, m.b, R⟩ R.length) Try.func14 rfl rfl (fun _ _ => Nat.zero_le _) (by repeat (first | exact Opnds.nil | refine Opnds.cons rfl (by exact Sub.refl _) ?_)) rfl rfl (by decide) ?_
    repeat (first | refine Plan.move rfl rfl rfl rfl ?_ | refine Plan.assign rfl rfl rfl rfl ?_ | refine Plan.extract rfl rfl rfl rfl rfl ?_ | refine J.seq (J.seq (J.region mixed hI (by kernel_rfl) ?_)))
    refine Plan.strs rfl rfl rfl rfl rfl rfl ?_
    refine Plan.boolv (y := false) (by simp) ?_
    repeat (refine Plan.move rfl rfl rfl rfl ?_)
    refine Plan.bools rfl rfl rfl rfl rfl Try.underlying4 (.inr ⟨rfl, rfl⟩) ?_
    refine Plan.boolv (y := false) (by simp) ?_
    repeat (first | refine Plan.move rfl rfl rfl rfl ?_ | refine Plan.pick rfl rfl rfl rfl rfl ?_)
    refine Plan.lenE rfl rfl rfl rfl Try.underlying35 ?_
    repeat (first | refine Plan.move rfl rfl rfl rfl ?_ | refine Plan.pick rfl rfl rfl rfl rfl ?_ | (refine Plan.ints rfl rfl rfl rfl rfl rfl ?_; (skip)))
    refine Plan.boolv (y := false) (by simp only [decide_eq_false_iff_not]; omega) ?_
    repeat (refine Plan.move rfl rfl rfl rfl ?_)
    refine Plan.lenE rfl rfl rfl rfl Try.underlying35 ?_
    repeat (refine Plan.move rfl rfl rfl rfl ?_)
    refine Plan.lenE rfl rfl rfl rfl Try.underlying35 ?_
    repeat (first | refine Plan.move rfl rfl rfl rfl ?_ | refine Plan.pick rfl rfl rfl rfl rfl ?_ | (refine Plan.ints rfl rfl rfl rfl rfl rfl ?_; (skip)))
    refine Plan.boolv (y := false) (by simp only [decide_eq_false_iff_not]; omega) ?_
    repeat (refine Plan.move rfl rfl rfl rfl ?_)
    refine Plan.lenE rfl rfl rfl rfl Try.underlying35 ?_
    refine Plan.seeC (t := 125) (key := 1000) (q := 4) (by kernel_rfl) hI rfl rfl rfl (fun w F h => row_rowH h) ?_
    refine Plan.seeC (t := 124) (key := 1000) (q := 5) (by kernel_rfl) hI rfl rfl rfl (fun w F h => row_rowH h) ?_
    refine Plan.sliceRow (m := m.l.length) (a0 := 0) (b0 := m2) rfl rfl rfl rfl (Sub.refl _) eltE (by rw [evs_len]) (.inl ⟨rfl, rfl⟩) (.inr ⟨_, _, rfl, rfl⟩) (Nat.zero_le _) (by omega) ?_
    rw [hal, Nat.zero_mul, List.drop_zero]
    refine Plan.call (B := w0.heap.size) rfl rfl rfl (hsame) Try.func15 rfl rfl (hBb w0) (by repeat (first | exact Opnds.nil | refine Opnds.cons rfl (by exact Sub.refl _) ?_)) ?_
    repeat (first | refine Plan.move rfl rfl rfl rfl ?_ | refine Plan.pick rfl rfl rfl rfl rfl ?_ | refine Plan.un rfl rfl rfl rfl rfl ?_)
    refine Plan.callR (key := 1000) (B := 0) (q := 2) rfl rfl rfl (log_Fast δ β ⟨m.s, m.b, R⟩ R.length) Try.func22 rfl rfl (fun _ _ => Nat.zero_le _) (by repeat (first | exact Opnds.nil | refine Opnds.cons rfl (by exact Sub.refl _) ?_)) rfl rfl (by decide) ?_
    repeat (refine Plan.move rfl rfl rfl rfl ?_)
    refine Plan.lenE rfl rfl rfl rfl Try.underlying35 ?_
    repeat (first | refine Plan.pick rfl rfl rfl rfl rfl ?_ | (refine Plan.ints rfl rfl rfl rfl rfl rfl ?_; (skip)))
    refine Plan.boolv (y := false) (by simp [hRl]) ?_
    repeat (first | refine Plan.move rfl rfl rfl rfl ?_ | refine J.seq (J.seq (J.region mixed hI (by kernel_rfl) ?_)) | refine J.condF rfl ?_ | refine J.skip ?_)
    refine Plan.loadAggC (key := 1000) (q := 0) (vs := e.enc) rfl rfl rfl rfl rfl rfl obj_whole Try.underlying48 rfl (by rw [encE]; kernel_rfl) (by decide) ?_
    have had := add_fn δ β ⟨m.s, m.b, R⟩ R.length l1 fd 65536 e he (by dsimp only; omega) hl1l (Nat.le_refl _)
    by_cases hre2 : rightP e ∧ l1.length + (evF e).length ≤ 65536
    rotate_left
    · have hne : ∃ z : Nat, (addM ⟨m.s, m.b, R⟩ l1 65536 e).2.2 = z ∧ z ≠ 0 := by
        unfold addM
        by_cases hp : rightP e
        · rw [if_pos hp, if_neg fun hq => hre2 ⟨hp, hq⟩]; exact ⟨9, rfl, by decide⟩
        · rw [if_neg hp]; exact ⟨1, rfl, by decide⟩
      obtain ⟨z, hz, hz0⟩ := hne
      rw [hz] at had
      generalize addM ⟨m.s, m.b, R⟩ l1 65536 e = ad at had
      refine Plan.callL (key := 1000) [2, 3] [0, 1, 4, 5] rfl rfl rfl (had) Try.func21 rfl rfl (by intro _ e; cases e; decide) (by repeat (first | exact Opnds.nil | refine Opnds.cons rfl (by exact Sub.refl _) ?_)) rfl hA rfl rfl rfl ?_
      intro _ _
      repeat ((refine Plan.ints rfl rfl rfl rfl rfl rfl ?_; (skip)))
      refine J.condN rfl (fun hx => ?_) (fun hx => ?_)
      · repeat (first | refine Plan.assign rfl rfl rfl rfl ?_ | refine J.seq (J.region mixed hI (by kernel_rfl) ?_))
        exact J.ret (Nrm.ret1 rfl (fun _ h => h) rfl fun B _ => Sub.refl _)
      · exact absurd (by omega) hz0
    have hadd : addM ⟨m.s, m.b, R⟩ l1 65536 e = (⟨m.s, m.b, R ++ [e]⟩, l1 ++ evF e, 0) := by unfold addM; rw [if_pos hre2.1, if_pos hre2.2]
    rw [hadd] at had
    dsimp only at had
    have hl2 : l1 ++ evF e = frames (bodOf ⟨m.s, m.b, M ++ [e]⟩) := by rw [bod_snoc ⟨m.s, m.b, M⟩ e, frames_snoc, hl1]
    have hr2 : ∀ x ∈ M ++ [e], rightP x := fun x hx => by
      rcases List.mem_append.1 hx with hx | hx
      · exact hMr x hx
      · rw [List.mem_singleton.1 hx]; exact hre2.1
    have hop2 := open_bod ⟨m.s, m.b, M ++ [e]⟩ hla.none hla.short hr2
    rw [← hl2] at hop2
    dsimp only at hop2
    have hev2 : evsC (reL (M ++ [e])) = evsC M ++ e.enc := by rw [evs_re hr2]; exact (evs_snoc M e).symm
    have hR2 : (reL (M ++ [e])).length = m2 + 1 := by simp [reL, hMl]
    have hsame2 := sameE_fn (reL (M ++ [e])) (by omega) (re_ok _)
    rw [hev2] at hsame2
    have hl2l : (l1 ++ evF e).length ≤ 65536 := by rw [List.length_append]; exact hre2.2
    generalize l1 ++ evF e = l2 at *
    generalize reL (M ++ [e]) = R2 at *
    have hopn2 := open_fn β l2 l2.length 65536 hl2l
    rw [hop2] at hopn2
    simp only [List.take_length, if_neg (Nat.lt_irrefl l2.length)] at hopn2
    refine Plan.callL (key := 1000) [2, 3] [0, 1, 4, 5] rfl rfl rfl (had) Try.func21 rfl rfl (by intro _ e; cases e; decide) (by repeat (first | exact Opnds.nil | refine Opnds.cons rfl (by exact Sub.refl _) ?_)) rfl hA rfl rfl rfl ?_
    intro _ _
    repeat (first | refine Plan.move rfl rfl rfl rfl ?_ | (refine Plan.ints rfl rfl rfl rfl rfl rfl ?_; (skip)) | refine J.seq (J.region mixed hI (by kernel_rfl) ?_) | refine J.condF rfl ?_ | refine J.skip ?_)
    refine Plan.callL (key := 1000) [0, 1] [2, 3, 4, 5] rfl rfl rfl (log_Sync δ β ⟨m.s, m.b, R ++ [e]⟩ R.length l2 fd 65536 (by simp only [List.length_append, List.length_cons, List.length_nil]; omega)) Try.func20 rfl rfl (by intro _ e; cases e; decide) (by repeat (first | exact Opnds.nil | refine Opnds.cons rfl (by exact Sub.refl _) ?_)) rfl hA rfl rfl rfl ?_
    intro _ _
    repeat (first | refine Plan.move rfl rfl rfl rfl ?_ | refine J.seq (J.region mixed hI (by kernel_rfl) ?_))
    refine Plan.callC (key := 1000) (q := 1) rfl rfl rfl (hopn2) Try.func12 rfl rfl (by intro _ e; cases e; decide) (by repeat (first | exact Opnds.nil | refine Opnds.cons rfl (by exact Sub.refl _) ?_)) rfl hA rfl ?_
    intro η _
    repeat (first | refine Plan.move rfl rfl rfl rfl ?_ | refine Plan.assign rfl rfl rfl rfl ?_ | refine Plan.extract rfl rfl rfl rfl rfl ?_)
    refine J.regroup (key := 1000) [logC η β ⟨m.s, m.b, R2⟩ R2.length, obj α e.enc, rowEv B2 m2 c2 (evsC M)] rfl
      (Ent.trans (d := allC [logC δ β ⟨m.s, m.b, R ++ [e]⟩ (R ++ [e]).length, logC η β ⟨m.s, m.b, R2⟩ R2.length, diskC β l2 l2.length 65536, obj α e.enc, logC γ β m fl, rowEv B1 m.l.length c1 (evsC m.l), rowEv B2 m2 c2 (evsC M)])
        (Ent.sep (Ent.refl _) (Ent.joinC (H1 := [_, _]))) (Ent.pickC [1, 3, 6] rfl rfl)) ?_
    refine J.seq (J.seq (J.region mixed hI (by kernel_rfl) ?_))
    repeat (first | refine Plan.move rfl rfl rfl rfl ?_ | refine Plan.pick rfl rfl rfl rfl rfl ?_ | (refine Plan.ints rfl rfl rfl rfl rfl rfl ?_; (skip)) | refine Plan.eqlPtr rfl rfl rfl rfl (by kernel_rfl) ?_)
    refine J.condF rfl ?_
    refine J.skip ?_
    refine J.seeC (t := 21) (key := 1000) (q := 2) rfl rfl rfl (fun w F h => row_rowH h) ?_
    refine J.seq (J.region mixed hI (by kernel_rfl) ?_)
    repeat (refine Plan.move rfl rfl rfl rfl ?_)
    refine Plan.callR (key := 1000) (B := 0) (q := 0) rfl rfl rfl (log_Events η β ⟨m.s, m.b, R2⟩ R2.length (by dsimp only; omega)) Try.func16 rfl rfl (fun _ _ => Nat.zero_le _) (by repeat (first | exact Opnds.nil | refine Opnds.cons rfl (by exact Sub.refl _) ?_)) rfl rfl (by decide) ?_
    dsimp only
    rw [hev2]
    refine Plan.litTight (B := w0.heap.size) (m := 0) (vs := []) rfl rfl rfl eltE rfl (fun w h => h.size) rfl (by simp) (by decide) ?_
    repeat (refine Plan.move rfl rfl rfl rfl ?_)
    refine Plan.appendFullOwn rfl rfl rfl rfl (Sub.refl _) rfl (Sub.refl _) eltE (evs_one M) (by rw [evs_len]; simp [flat]; omega) ?_
    have hfl : flat [] ++ evsC M = evsC M := rfl
    rw [hfl]
    refine Plan.loadAggC (key := 1000) (q := 1) (vs := e.enc) rfl rfl rfl rfl rfl rfl obj_whole Try.underlying48 rfl (by rw [encE]; kernel_rfl) (by decide) ?_
    refine Plan.lit (B := 0) rfl rfl rfl eltE rfl (fun _ _ => Nat.zero_le _) rfl (fun v hv => by rw [List.mem_singleton.1 hv]; rfl) (by decide) ?_
    refine Plan.appendSame (tu := 157) (news := e.enc) rfl rfl rfl rfl (Sub.refl _) rfl Sub.own rfl (Sub.refl _) eltE (by intro d hd; cases hd; decide) (hGb w0) (encE_one e) (by rw [evs_len, encE]; omega) ?_
    refine Plan.call (B := w0.heap.size) rfl rfl rfl hsame2 Try.func15 rfl rfl (hBb w0) (Opnds.cons rfl (Sub.refl _) (Opnds.cons rfl (Sub.refl _) Opnds.nil)) ?_
    repeat (refine Plan.assign rfl rfl rfl rfl ?_)
    exact J.ret (Nrm.ret1 rfl (fun _ h => h) rfl fun B _ => Sub.refl _)
theorem lawCrC (sc : List OpV8) (k a t : Int) (c : List Value) (hl : sc.length ≤ 9223372036854775807) (hok : ∀ o ∈ sc, o.okV) (hk : in64 k) (ha : in64 a) (ht : in64 t) (hc : CellsOk kdsEvent c) :
    Spc Try.prog 6 [ops8F sc, .ex (vi k), .ex (vi a), .ex (vi t), .ex (.agg c.toArray)] fun _ => .ex (.bool true) := by
  obtain ⟨e, rfl, he⟩ := ev_of hc
  exact lawCr sc k a t e hl hok hk ha ht he
end Go.Proofs.Ytepgphflnelpoaa
end
