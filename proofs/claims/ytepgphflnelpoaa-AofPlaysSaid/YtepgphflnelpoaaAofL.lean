/-
  Laid together: AofPls.
-/
import Derived.Test.YtepgphflnelpoaaAofK

section
set_option linter.unusedSimpArgs false
set_option linter.unusedVariables false
set_option maxRecDepth 20000
namespace Go.Proofs.Ytepgphflnelpoaa
open Go.Free Go.RowKit Go.Proofs
set_option maxHeartbeats 8000000

theorem enc8_oneP {o : OpV8} (h : o.okV) : ∀ u ∈ o.enc, u.oneCell' = true := by
  obtain ⟨A, c, hv⟩ := h.2.2.2.2.2.2.2.2
  intro u hu
  unfold OpV8.enc at hu
  rcases List.mem_append.1 hu with hu | hu
  · rcases List.mem_append.1 hu with hu | hu
    · simp only [List.mem_cons, List.not_mem_nil, or_false] at hu
      rcases hu with rfl | rfl | rfl | rfl <;> rfl
    · exact encE_one _ u hu
  · simp only [List.mem_cons, List.not_mem_nil, or_false] at hu
    rcases hu with rfl | rfl
    · rfl
    · rw [hv]; rfl
theorem Plan.unframeN {P : Program} {ops : Array Oper} {Q : Exit → Act → World → Prop} {n : Nat} {I : World → Prop} {i : Nat} {E : Env} {d : Bool} {A : Nat → Prop} {H : List Chunk} {key β : Nat} {cs : List Value} (hAβ : A β) (hk : Free.look E key = some (heap (fun b => A b ∧ b ≠ β) H))
    (h : Nrm n I (Q .normal) ((key, heap A (H ++ [obj β cs])) :: E)) : Plan P ops Q n (framed I β cs) d 0 i E := fun a w h1 h2 h3 => by
  obtain ⟨φ, hL, hLA⟩ := h3 key _ hk
  obtain ⟨h1, e, hh⟩ := h1
  refine h a w h1 h2 (heap_put h3 (φ := fun p b => if p = H.length then b = β else φ p b) ⟨fun p c hp => ?_, fun p p' b hp hp' => ?_, fun p b hp => ?_⟩ (fun p b hb => ?_))
  · by_cases he : p = H.length
    · subst he
      simp only [List.getElem?_concat_length, Option.some.injEq] at hp
      subst hp
      simp only [if_true]
      exact ⟨⟨e, hh⟩, fun b => Iff.rfl⟩
    · have hl : p < (H ++ [obj β cs]).length := (List.getElem?_eq_some_iff.1 hp).1
      have hl' : p < H.length := by simp at hl; omega
      rw [List.getElem?_append_left hl'] at hp
      simp only [if_neg he]
      exact hL.holds p c hp
  · by_cases he : p = H.length
    · by_cases he' : p' = H.length
      · rw [he, he']
      · simp only [if_pos he] at hp
        simp only [if_neg he'] at hp'
        exact absurd hp (hLA p' b hp').2
    · by_cases he' : p' = H.length
      · simp only [if_neg he] at hp
        simp only [if_pos he'] at hp'
        exact absurd hp' (hLA p b hp).2
      · simp only [if_neg he] at hp
        simp only [if_neg he'] at hp'
        exact hL.apart p p' b hp hp'
  · rw [List.length_append]
    by_cases he : p = H.length
    · simp [he]
    · simp only [if_neg he] at hp
      have := hL.bound p b hp
      simp; omega
  · by_cases he : p = H.length
    · simp only [if_pos he] at hb; subst hb; exact hAβ
    · simp only [if_neg he] at hb
      exact (hLA p b hb).1
/-- What holds of a log and its disk all the time. -/
structure PlA (R : Nat) (k : Nat) (m : LogV) (l : List UInt8) (df : Nat) : Prop where
  few : m.l.length ≤ 65536 + k
  room : l.length ≤ R
  fast : df ≤ l.length
  ok : ∀ x ∈ m.l, x.okV
theorem PlA.more {R k k' : Nat} {m : LogV} {l : List UInt8} {df : Nat} (h : PlA R k m l df) (hk : k ≤ k') : PlA R k' m l df := ⟨Nat.le_trans h.few (by omega), h.room, h.fast, h.ok⟩
theorem pl_add {R k : Nat} {m : LogV} {l : List UInt8} {df : Nat} (h : PlA R k m l df) {e : EvV} (he : e.okV) : PlA R (k + 1) (addM m l R e).1 (addM m l R e).2.1 df := by
  unfold addM
  split
  · split
    · rename_i h2
      refine ⟨by simp only [List.length_append, List.length_cons, List.length_nil]; have := h.few; omega, by rw [List.length_append]; exact h2, by rw [List.length_append]; have := h.fast; omega, fun x hx => ?_⟩
      rcases List.mem_append.1 hx with hx | hx
      · exact h.ok x hx
      · rw [List.mem_singleton.1 hx]; exact he
    · exact h.more (by omega)
  · exact h.more (by omega)
theorem pl_sync {R k : Nat} {m : LogV} {l : List UInt8} {df : Nat} (h : PlA R k m l df) : PlA R k m l l.length := ⟨h.few, h.room, Nat.le_refl _, h.ok⟩
theorem pl_rw {R k : Nat} {m : LogV} {f : Nat} {l : List UInt8} {df : Nat} (h : PlA R k m l df) {s : List UInt8} {L : List EvV} (hL : L.length ≤ 100) (hok : ∀ x ∈ L, x.okV) : PlA R k (rwM m f l df R s L).1.1 (rwM m f l df R s L).2.1.1 (rwM m f l df R s L).2.1.2 := by
  unfold rwM
  split
  · exact h
  · split
    · exact h
    · split
      · rename_i h2; exact ⟨by dsimp only; omega, h2, Nat.le_refl _, hok⟩
      · exact h
theorem pl_crash {R k : Nat} {m : LogV} {l : List UInt8} {df : Nat} (h : PlA R k m l df) (a b c : Int) : (crashOf l df a b c).length ≤ R := by
  have h1 := h.fast
  have h2 := h.room
  unfold crashOf
  rw [List.length_append, tail_length, List.length_take, List.length_take, List.length_drop]; omega
theorem pl_open {R k : Nat} {l : List UInt8} {df : Nat} (hR : R ≤ 65536) (hl : l.length ≤ R) (hd : df ≤ l.length) (hok : ∀ x ∈ (openM l).1.l, x.okV) : PlA R k (openM l).1 (l.take (openM l).2) (if (openM l).2 < l.length then (openM l).2 else df) := by
  have h1 := open_len l
  have h2 := (open_again l).1
  refine ⟨by omega, by rw [List.length_take]; omega, ?_, hok⟩
  rw [List.length_take]
  split <;> omega
theorem takes_okP : ∀ (bs : List (List UInt8)) (f : Bool) (m : LogV) (p : Nat), (∀ x ∈ m.l, x.okV) → ∀ x ∈ (takesM bs f m p).1.l, x.okV
  | [], f, m, p, h => h
  | b :: r, f, m, p, h => by
    cases ht : takeM m b f with
    | none => rw [takes_none ht]; exact h
    | some m' =>
      rw [takes_some ht]
      refine takes_okP r false m' _ ?_
      cases b with
      | nil => cases ht
      | cons x r =>
        unfold takeM at ht
        simp only at ht
        split at ht
        · cases ht; exact h
        · split at ht
          · cases ht
            intro y hy
            rcases List.mem_append.1 hy with hy | hy
            · exact h y hy
            · rw [List.mem_singleton.1 hy]; exact decR_ok r
          · cases ht
theorem open_okP (l : List UInt8) : ∀ x ∈ (openM l).1.l, x.okV := takes_okP _ _ _ _ fun x hx => by cases hx
abbrev St8 := Nat × Nat × LogV × Nat × List UInt8 × Nat
def hp8 (β χ R : Nat) (x : St8) : List Chunk := [logC x.1 β x.2.2.1 x.2.2.2.1, diskC β x.2.2.2.2.1 x.2.2.2.2.2 R, logC x.2.1 χ x.2.2.1 x.2.2.2.1, refC χ x.2.2.2.2.1 x.2.2.2.2.2 R]
def plE (w0 : World) (u : Value) (β χ R : Nat) (sc : List OpV8) (t : Nat × St8) : Env :=
  [(1, .ex u), (5, .ex (ptr t.2.1)), (6, .ex (ptr β)), (7, .ex (ptr χ)), (8, .ex (ptr t.2.2.1)), (35, .ex (vi sc.length)), (36, .ex (vi t.1)),
   (1000, heap (newB w0) [logC t.2.1 β t.2.2.2.1 t.2.2.2.2.1, diskC β t.2.2.2.2.2.1 t.2.2.2.2.2.2 R, logC t.2.2.1 χ t.2.2.2.1 t.2.2.2.2.1, refC χ t.2.2.2.2.2.1 t.2.2.2.2.2.2 R])]
def plM (w0 : World) (u : Value) (β χ R : Nat) (sc : List OpV8) (i : Nat) (t : Nat × St8) : Env :=
  [(1, .ex u), (5, .ex (ptr t.2.1)), (6, .ex (ptr β)), (7, .ex (ptr χ)), (8, .ex (ptr t.2.2.1)), (11, .ex (vi t.1)), (12, .ex (vi t.1)), (35, .ex (vi sc.length)), (36, .ex (vi i)),
   (1000, heap (newB w0) [logC t.2.1 β t.2.2.2.1 t.2.2.2.2.1, diskC β t.2.2.2.2.2.1 t.2.2.2.2.2.2 R, logC t.2.2.1 χ t.2.2.2.1 t.2.2.2.2.1, refC χ t.2.2.2.2.2.1 t.2.2.2.2.2.2 R])]
theorem lawPls (room : Int) (sc : List OpV8) (hroom : in64 room) (hl : sc.length ≤ 9223372036854775807) (hok : ∀ o ∈ sc, o.okV) :
    Spc Try.prog 8 [.ex (vi room), ops8F sc] fun _ => .ex (.bool true) := by
  refine Spc.intro Try.func8 rfl (Nat.le_of_ble_eq_true rfl) fun w0 => ?_
  have hI := hIb w0
  have hA := Own.below w0
  refine J.nameOld (t := 1) rfl fun u hu => ?_
  have hs8 := sub8 hu
  have hbg := begun_fn room
  have hnw := ref_NewD room
  have hR : clampR room ≤ 65536 := by unfold clampR; omega
  generalize clampR room = R at *
  refine J.heap0 1000 (newB w0) ?_
  repeat (first | refine Plan.assign rfl rfl rfl rfl ?_ | refine J.seq (J.region mixed hI (by kernel_rfl) ?_) | refine J.seq (J.seq (J.region mixed hI (by kernel_rfl) ?_)))
  refine Plan.call (B := w0.heap.size) rfl rfl rfl (awakeL_fn) Try.func9 rfl rfl (hBb w0) (by repeat (exact Opnds.nil)) ?_
  repeat (first | refine Plan.move rfl rfl rfl rfl ?_ | refine Plan.un rfl rfl rfl rfl rfl ?_)
  refine Plan.call (B := w0.heap.size) rfl rfl rfl (few8_fn sc hl hok) Try.func19 rfl rfl (hBb w0) (Opnds.cons rfl (sub8F hu) Opnds.nil) ?_
  cases hfw : few8 sc with
  | false =>
    repeat (first | refine Plan.pick rfl rfl rfl rfl rfl ?_ | refine Plan.un rfl rfl rfl rfl rfl ?_ | refine J.seq (J.region mixed hI (by kernel_rfl) ?_) | refine J.condT rfl ?_)
    refine Plan.call (B := w0.heap.size) rfl rfl rfl (awakeL_fn) Try.func9 rfl rfl (hBb w0) (by repeat (exact Opnds.nil)) ?_
    repeat (refine Plan.assign rfl rfl rfl rfl ?_)
    exact J.ret (Nrm.ret1 rfl (fun _ h => h) rfl fun B _ => Sub.refl _)
  | true =>
  obtain ⟨hsc, hfo⟩ := few8_iff.1 hfw
  repeat (first | refine Plan.move rfl rfl rfl rfl ?_ | refine Plan.pick rfl rfl rfl rfl rfl ?_ | refine Plan.un rfl rfl rfl rfl rfl ?_ | refine J.seq (J.region mixed hI (by kernel_rfl) ?_) | refine J.condF rfl ?_ | refine J.skip ?_)
  refine Plan.callN (key := 1000) rfl rfl rfl (hbg) Try.func17 rfl rfl (by intro _ e; cases e; decide) (by repeat (first | exact Opnds.nil | refine Opnds.cons rfl (by exact Sub.refl _) ?_)) rfl hA ?_
  rintro ⟨γ0, β⟩ _
  repeat (first | refine Plan.move rfl rfl rfl rfl ?_ | refine Plan.assign rfl rfl rfl rfl ?_ | refine Plan.extract rfl rfl rfl rfl rfl ?_)
  refine J.open1 (key := 1000) rfl ?_
  repeat (first | refine Plan.move rfl rfl rfl rfl ?_ | refine J.seq (J.region mixed hI (by kernel_rfl) ?_))
  refine Plan.callN (key := 1000) rfl rfl rfl (hnw) Try.func24 rfl rfl (by intro _ e; cases e; decide) (by repeat (first | exact Opnds.nil | refine Opnds.cons rfl (by exact Sub.refl _) ?_)) rfl hA ?_
  intro χ _
  repeat (first | refine Plan.move rfl rfl rfl rfl ?_ | refine Plan.assign rfl rfl rfl rfl ?_ | refine J.seq (J.region mixed hI (by kernel_rfl) ?_))
  have hro := ref_OpenL χ [] 0 R (by simp)
  rw [open_nil] at hro
  refine Plan.callC (key := 1000) (q := 2) rfl rfl rfl (hro) Try.func25 rfl rfl (by intro _ e; cases e; decide) (by repeat (first | exact Opnds.nil | refine Opnds.cons rfl (by exact Sub.refl _) ?_)) rfl hA rfl ?_
  intro δ0 _
  repeat (refine Plan.assign rfl rfl rfl rfl ?_)
  refine J.regroup (key := 1000) [logC γ0 β log0 0, diskC β [] 0 R, logC δ0 χ log0 0, refC χ [] 0 R] rfl (Ent.sep (Ent.refl _) (Ent.sep (Ent.refl _) Ent.one)) ?_
  repeat (first | refine Plan.move rfl rfl rfl rfl ?_ | refine Plan.eqlPtr rfl rfl rfl rfl (by kernel_rfl) ?_ | refine J.seq (J.seq (J.region mixed hI (by kernel_rfl) ?_)) | refine J.condF rfl ?_ | refine J.skip ?_)
  refine Plan.lenRow (m := sc.length) rfl rfl rfl rfl hs8 Try.underlying53 (by rw [ops8_len]) (by decide) ?_
  repeat (refine Plan.move rfl rfl rfl rfl ?_)
  refine J.block (J.loop (plE w0 u β χ R sc) (fun t => t.1 ≤ sc.length ∧ PlA R t.1 t.2.2.2.1 t.2.2.2.2.2.1 t.2.2.2.2.2.2) (fun t => sc.length - t.1) (0, γ0, δ0, log0, 0, [], 0) ⟨Nat.zero_le _, ⟨Nat.zero_le _, Nat.zero_le _, Nat.le_refl _, fun x hx => by cases hx⟩⟩ ?_ ?_)
  · repeat (first | exact Weak.nil | refine Weak.cons rfl (Sub.refl _) ?_)
  rintro ⟨i, γ, δ, m, f, l, df⟩ ⟨hi, hpa⟩
  simp only at hi hpa
  change J _ _ _ _ _ (plE w0 u β χ R sc (i, γ, δ, m, f, l, df))
  have hpf := hpa.few
  have hpr := hpa.room
  have hpd := hpa.fast
  repeat (first | (refine Plan.ints rfl rfl rfl rfl rfl rfl ?_; (skip)) | refine J.seq (J.region mixed hI (by kernel_rfl) ?_))
  refine J.seq (J.condD rfl (fun hc => ?_) (fun hc => ?_))
  · have hlt : i < sc.length := by
      dsimp only at hc; omega
    obtain ⟨o, hoe⟩ : ∃ o, o = sc[i] := ⟨_, rfl⟩
    have hget : sc.getD i op80 = o := by simp [hoe, List.getD_eq_getElem?_getD, List.getElem?_eq_getElem hlt]
    have hoM : o ∈ sc := hoe ▸ List.getElem_mem hlt
    have hov := hok o hoM
    have hof := hfo o hoM
    repeat (refine J.skip ?_)
    refine J.seq (J.block ?_)
    repeat (first | refine Plan.move rfl rfl rfl rfl ?_ | refine Plan.assign rfl rfl rfl rfl ?_ | refine J.seq (J.region mixed hI (by kernel_rfl) ?_))
    refine Plan.indexAddr OpV8.enc 32 sc op80 rfl rfl rfl rfl hs8 rfl elt8 enc8 (by omega) (by dsimp only; omega) ?_
    rw [Int.toNat_natCast, hget]
    refine Plan.loadAggP rfl rfl rfl rfl (Sub.refl _) Try.underlying51 rfl (by rw [enc8]; kernel_rfl) ?_
    refine Plan.allocC (key := 1000) (z := .agg op80.enc.toArray) rfl rfl rfl (by intro _ e; cases e; decide) (by kernel_rfl) rfl hA fun ξ => ?_
    refine Plan.storeC (key := 1000) (q := 4) (off := 0) rfl rfl rfl rfl rfl rfl (enc8_oneP hov) (by show _ = some o.enc.toArray.size; kernel_rfl) rfl hA rfl (obj_pat (Nat.le_of_ble_eq_true rfl)) ?_
    refine J.regroup (key := 1000) [obj ξ o.enc, logC γ β m f, diskC β l df R, logC δ χ m f, refC χ l df R] rfl (Ent.pickC [4, 0, 1, 2, 3] rfl rfl) ?_
    refine J.seq (J.region mixed hI (by kernel_rfl) ?_)
    repeat (refine Plan.assign rfl rfl rfl rfl ?_)
    refine J.seqMid (σ := Nat × St8) (plM w0 u β χ R sc i) (fun t => PlA R (i + 1) t.2.2.2.1 t.2.2.2.2.2.1 t.2.2.2.2.2.2) ?_ ?_
    · repeat (first | refine Plan.fieldC rfl rfl rfl rfl (by first | exact Try.underlying74 | exact Try.underlying51) rfl (by kernel_rfl) (by exact (rfl : _ = 0)) ?_ | refine Plan.loadC (key := 1000) (q := 0) rfl rfl rfl rfl rfl rfl (obj_reads1 rfl) (by exact Try.underlying3) (by rfl) (by decide) ?_ | refine J.seq (J.region mixed hI (by kernel_rfl) ?_))
      refine J.block ?_
      repeat (first | refine Plan.assign rfl rfl rfl rfl ?_ | (refine Plan.ints rfl rfl rfl rfl rfl rfl ?_; (skip)) | refine J.seq (J.region mixed hI (by kernel_rfl) ?_))
      refine J.condE rfl (fun k1 => ?_) (fun k1 => ?_)
      · have had := add_fn γ β m f l df R o.e hov.2.2.2.2.1 (by omega) hpr hR
        have hra := ref_AddL δ χ m f l df R o.e hov.2.2.2.2.1 (by omega) hpr hR
        have hpn := pl_add hpa hov.2.2.2.2.1
        generalize addM m l R o.e = ad at *
        have hI0 := hI
        have hA0 := hA
        refine J.frame (key := 1000) 0 rfl rfl fun hAξ => ?_
        have hI := framed_I (β := ξ) (cs := o.enc) hI0
        have hA := framed_own (β := ξ) (cs := o.enc) hA0
        refine J.loose2 [(4, ptr δ), (5, .pointer (some ⟨ξ, 4, none⟩)), (6, aggE o.e)] [(8, .ex (ptr δ)), (10, .ex (ptr ξ))] mixed hI rfl rfl rfl (by kernel_rfl) (by kernel_rfl) (by kernel_rfl) rfl rfl (fun ⟨_, _, h⟩ => h) (fun _ _ _ _ h => h) (by repeat (first | exact Weak.nil | refine Weak.cons rfl (Sub.refl _) ?_)) ?_ ?_
        · refine Gives.cons [(8, .ex (ptr δ)), (10, .ex (ptr ξ))] (by kernel_rfl) rfl (by kernel_rfl) (Plan.move rfl rfl rfl rfl (Plan.gives rfl)) ?_
          refine Gives.cons [(8, .ex (ptr δ)), (10, .ex (ptr ξ))] (by kernel_rfl) rfl (by kernel_rfl) (Plan.fieldC rfl rfl rfl rfl (by exact Try.underlying51) rfl (by kernel_rfl) rfl (Plan.gives rfl)) ?_
          exact Gives.cons [(52, .ex (.pointer (some ⟨ξ, 4, none⟩))), (8, .ex (ptr δ)), (10, .ex (ptr ξ))] (by kernel_rfl) rfl (by kernel_rfl) (Plan.loadAggI (vs := o.e.enc) rfl rfl rfl rfl (framed_cell rfl) Try.underlying48 rfl (by rw [encE]; kernel_rfl) (Plan.gives rfl)) Gives.nil
        repeat (first | refine Plan.move rfl rfl rfl rfl ?_ | refine Plan.fieldC rfl rfl rfl rfl (by first | exact Try.underlying74 | exact Try.underlying51) rfl (by kernel_rfl) (by exact (rfl : _ = 4)) ?_)
        refine Plan.loadAggI (vs := o.e.enc) rfl rfl rfl rfl (framed_cell rfl) Try.underlying48 rfl (by rw [encE]; kernel_rfl) ?_
        refine Plan.callL (key := 1000) [0, 1] [2, 3] rfl rfl rfl (had) Try.func21 rfl rfl (by intro _ e; cases e; decide) (by repeat (first | exact Opnds.nil | refine Opnds.cons rfl (by exact Sub.refl _) ?_)) rfl hA rfl rfl rfl ?_
        intro _ _
        repeat (refine Plan.assign rfl rfl rfl rfl ?_)
        refine Plan.callL (key := 1000) [2, 3] [0, 1] rfl rfl rfl (hra) Try.func26 rfl rfl (by intro _ e; cases e; decide) (by repeat (first | exact Opnds.nil | refine Opnds.cons rfl (by exact Sub.refl _) ?_)) rfl hA rfl rfl rfl ?_
        intro _ _
        repeat (refine Plan.assign rfl rfl rfl rfl ?_)
        refine Plan.unframeN (key := 1000) hAξ rfl ?_
        exact Nrm.mid (ad.2.2, γ, δ, ad.1, f, ad.2.1, df) hpn (by repeat (first | exact Weak.nil | refine Weak.cons rfl (Sub.refl _) ?_ | refine Weak.cons rfl (Sub.heap (Ent.pickC [2, 3, 0, 1] rfl rfl)) ?_))
      repeat (first | refine Plan.assign rfl rfl rfl rfl ?_ | (refine Plan.ints rfl rfl rfl rfl rfl rfl ?_; (skip)) | refine J.seq (J.region mixed hI (by kernel_rfl) ?_))
      refine J.condE rfl (fun k2 => ?_) (fun k2 => ?_)
      · repeat (first | refine Plan.move rfl rfl rfl rfl ?_ | refine J.seq (J.region mixed hI (by kernel_rfl) ?_))
        refine Plan.callL (key := 1000) [1, 2] [0, 3, 4] rfl rfl rfl (log_Sync γ β m f l df R (by omega)) Try.func20 rfl rfl (by intro _ e; cases e; decide) (by repeat (first | exact Opnds.nil | refine Opnds.cons rfl (by exact Sub.refl _) ?_)) rfl hA rfl rfl rfl ?_
        intro _ _
        repeat (first | refine Plan.move rfl rfl rfl rfl ?_ | refine J.region mixed hI (by kernel_rfl) ?_)
        refine Plan.callL (key := 1000) [3, 4] [0, 1, 2] rfl rfl rfl (ref_SyncL δ χ m f l df R) Try.func27 rfl rfl (by intro _ e; cases e; decide) (by repeat (first | exact Opnds.nil | refine Opnds.cons rfl (by exact Sub.refl _) ?_)) rfl hA rfl rfl rfl ?_
        intro _ _
        repeat (fail)
        exact Nrm.mid (0, γ, δ, m, m.l.length, l, l.length) ((pl_sync hpa).more (by omega)) (by repeat (first | exact Weak.nil | refine Weak.cons rfl (Sub.refl _) ?_ | refine Weak.cons rfl (Sub.heap (Ent.pickC [2, 3, 0, 1] rfl rfl)) ?_))
      repeat (first | refine Plan.assign rfl rfl rfl rfl ?_ | (refine Plan.ints rfl rfl rfl rfl rfl rfl ?_; (skip)) | refine J.seq (J.region mixed hI (by kernel_rfl) ?_))
      refine J.condE rfl (fun k3 => ?_) (fun k3 => ?_)
      · have hpn := (pl_rw (f := f) (s := o.s) hpa hof.2 hov.2.2.2.2.2.2.2.1).more (Nat.le_succ i)
        have hrw : SpcC Try.prog 18 [.ex (ptr γ), .ex (str o.s), .ex o.v] (allC ([logC γ β m f, diskC β l df R] ++ [frozenC w0 fun b => b < w0.heap.size])) (fun _ : Unit => True) (fun _ => .ex (vi (rwM m f l df R o.s o.L).2.2))
          (fun _ => allC ([logC γ β (rwM m f l df R o.s o.L).1.1 (rwM m f l df R o.s o.L).1.2, diskC β (rwM m f l df R o.s o.L).2.1.1 (rwM m f l df R o.s o.L).2.1.2 R] ++ [frozenC w0 fun b => b < w0.heap.size])) :=
          rewrite_fn γ β m f l df R o.s o.L o.v w0 (fun b => b < w0.heap.size) (frozen_row (hu.2 o hoM) fun b hb => hb) hR (by omega) hov.2.2.2.2.2.2.2.1
        have hrr : SpcC Try.prog 28 [.ex (ptr δ), .ex (str o.s), .ex o.v] (allC ([logC δ χ m f, refC χ l df R] ++ [frozenC w0 fun b => b < w0.heap.size])) (fun _ : Unit => True) (fun _ => .ex (vi (rwM m f l df R o.s o.L).2.2))
          (fun _ => allC ([logC δ χ (rwM m f l df R o.s o.L).1.1 (rwM m f l df R o.s o.L).1.2, refC χ (rwM m f l df R o.s o.L).2.1.1 (rwM m f l df R o.s o.L).2.1.2 R] ++ [frozenC w0 fun b => b < w0.heap.size])) :=
          ref_RewriteL δ χ m f l df R o.s o.L o.v w0 (fun b => b < w0.heap.size) (frozen_row (hu.2 o hoM) fun b hb => hb) hR (by omega) hov.2.2.2.2.2.2.2.1 hov.2.2.2.2.2.1
        generalize rwM m f l df R o.s o.L = rw at *
        have hI0 := hI
        have hA0 := hA
        refine J.frame (key := 1000) 0 rfl rfl fun hAξ => ?_
        have hI := framed_I (β := ξ) (cs := o.enc) hI0
        have hA := framed_own (β := ξ) (cs := o.enc) hA0
        refine J.loose2 [(6, ptr δ), (7, .pointer (some ⟨ξ, 30, none⟩)), (8, str o.s), (9, .pointer (some ⟨ξ, 31, none⟩)), (10, o.v)] [(8, .ex (ptr δ)), (10, .ex (ptr ξ))] mixed hI rfl rfl rfl (by kernel_rfl) (by kernel_rfl) (by kernel_rfl) rfl rfl (fun ⟨_, _, h⟩ => h) (fun _ _ _ _ h => h) (by repeat (first | exact Weak.nil | refine Weak.cons rfl (Sub.refl _) ?_)) ?_ ?_
        · refine Gives.cons [(8, .ex (ptr δ)), (10, .ex (ptr ξ))] (by kernel_rfl) rfl (by kernel_rfl) (Plan.move rfl rfl rfl rfl (Plan.gives rfl)) ?_
          refine Gives.cons [(8, .ex (ptr δ)), (10, .ex (ptr ξ))] (by kernel_rfl) rfl (by kernel_rfl) (Plan.fieldC rfl rfl rfl rfl (by exact Try.underlying51) rfl (by kernel_rfl) rfl (Plan.gives rfl)) ?_
          refine Gives.cons [(70, .ex (.pointer (some ⟨ξ, 30, none⟩))), (8, .ex (ptr δ)), (10, .ex (ptr ξ))] (by kernel_rfl) rfl (by kernel_rfl) (Plan.loadI rfl rfl rfl rfl (framed_cell1 rfl) Try.underlying9 rfl (Plan.gives rfl)) ?_
          refine Gives.cons [(8, .ex (ptr δ)), (10, .ex (ptr ξ))] (by kernel_rfl) rfl (by kernel_rfl) (Plan.fieldC rfl rfl rfl rfl (by exact Try.underlying51) rfl (by kernel_rfl) rfl (Plan.gives rfl)) ?_
          exact Gives.cons [(72, .ex (.pointer (some ⟨ξ, 31, none⟩))), (8, .ex (ptr δ)), (10, .ex (ptr ξ))] (by kernel_rfl) rfl (by kernel_rfl) (Plan.loadI rfl rfl rfl rfl (framed_cell1 rfl) Try.underlying35 rfl (Plan.gives rfl)) Gives.nil
        repeat (refine Plan.move rfl rfl rfl rfl ?_)
        refine Plan.fieldC (off := 30) rfl rfl rfl rfl (by exact Try.underlying51) rfl (by kernel_rfl) rfl ?_
        refine Plan.loadI (v := str o.s) rfl rfl rfl rfl (framed_cell1 rfl) Try.underlying9 rfl ?_
        refine Plan.fieldC (off := 31) rfl rfl rfl rfl (by exact Try.underlying51) rfl (by kernel_rfl) rfl ?_
        refine Plan.loadI (v := o.v) rfl rfl rfl rfl (framed_cell1 rfl) Try.underlying35 rfl ?_
        refine Plan.callFz (key := 1000) [0, 1] [2, 3] rfl rfl rfl hrw Try.func18 rfl rfl (by intro _ e; cases e; decide) (by repeat (first | exact Opnds.nil | refine Opnds.cons rfl (by exact Sub.refl _) ?_)) rfl hA rfl rfl rfl (fun w hw => below_froz w hw.1) (fun b hb hb2 => by have := hb.1; simp only [newB] at this; omega) ?_
        intro _ _
        repeat (refine Plan.assign rfl rfl rfl rfl ?_)
        refine Plan.callFz (key := 1000) [2, 3] [0, 1] rfl rfl rfl hrr Try.func28 rfl rfl (by intro _ e; cases e; decide) (by repeat (first | exact Opnds.nil | refine Opnds.cons rfl (by exact Sub.refl _) ?_)) rfl hA rfl rfl rfl (fun w hw => below_froz w hw.1) (fun b hb hb2 => by have := hb.1; simp only [newB] at this; omega) ?_
        intro _ _
        repeat (refine Plan.assign rfl rfl rfl rfl ?_)
        refine Plan.unframeN (key := 1000) hAξ rfl ?_
        exact Nrm.mid (rw.2.2, γ, δ, rw.1.1, rw.1.2, rw.2.1.1, rw.2.1.2) hpn (by repeat (first | exact Weak.nil | refine Weak.cons rfl (Sub.refl _) ?_ | refine Weak.cons rfl (Sub.heap (Ent.pickC [2, 3, 0, 1] rfl rfl)) ?_))
      repeat (first | refine Plan.assign rfl rfl rfl rfl ?_ | (refine Plan.ints rfl rfl rfl rfl rfl rfl ?_; (skip)) | refine J.seq (J.seq (J.region mixed hI (by kernel_rfl) ?_)))
      refine J.condE rfl (fun k4 => ?_) (fun k4 => ?_)
      · have hcl := pl_crash hpa o.n o.at_ o.turn
        have hcd := disk_Crash β l df R o.n o.at_ o.turn (by omega) hpd hov.2.1 hov.2.2.1 hov.2.2.2.1
        have hcr := ref_Crash χ l df R o.n o.at_ o.turn (by omega) hpd hov.2.1 hov.2.2.1 hov.2.2.2.1
        generalize crashOf l df o.n o.at_ o.turn = l2 at *
        have hpo := pl_open (k := i + 1) hR hcl (Nat.le_refl _) (open_okP l2)
        refine J.skip ?_
        refine J.condE rfl (fun _ => ?_) (fun h => absurd k4 h)
        repeat (first | (refine Plan.ints rfl rfl rfl rfl rfl rfl ?_; (skip)) | refine Plan.fieldC rfl rfl rfl rfl (by first | exact Try.underlying74 | exact Try.underlying51) rfl (by kernel_rfl) (by exact (rfl : _ = 0)) ?_ | refine Plan.loadC (key := 1000) (q := 0) rfl rfl rfl rfl rfl rfl (obj_reads1 rfl) (by exact Try.underlying3) (by rfl) (by decide) ?_ | refine J.seq (J.seq (J.region mixed hI (by kernel_rfl) ?_)))
        refine J.condE rfl (fun _ => ?_) (fun h => absurd k4 h)
        repeat (first | refine Plan.move rfl rfl rfl rfl ?_ | refine Plan.fieldC rfl rfl rfl rfl (by first | exact Try.underlying74 | exact Try.underlying51) rfl (by kernel_rfl) (by first | exact (rfl : _ = 1) | exact (rfl : _ = 2) | exact (rfl : _ = 3)) ?_ | refine Plan.loadC (key := 1000) (q := 0) rfl rfl rfl rfl rfl rfl (obj_reads1 rfl) (by exact Try.underlying3) (by rfl) (by decide) ?_ | refine J.seq (J.region mixed hI (by kernel_rfl) ?_))
        refine Plan.callC (key := 1000) (q := 2) rfl rfl rfl (hcd) Try.func23 rfl rfl (by intro _ e; cases e; decide) (by repeat (first | exact Opnds.nil | refine Opnds.cons rfl (by exact Sub.refl _) ?_)) rfl hA rfl ?_
        intro _ _
        repeat (first | refine Plan.move rfl rfl rfl rfl ?_ | refine Plan.fieldC rfl rfl rfl rfl (by first | exact Try.underlying74 | exact Try.underlying51) rfl (by kernel_rfl) (by first | exact (rfl : _ = 1) | exact (rfl : _ = 2) | exact (rfl : _ = 3)) ?_ | refine Plan.loadC (key := 1000) (q := 0) rfl rfl rfl rfl rfl rfl (obj_reads1 rfl) (by exact Try.underlying3) (by rfl) (by decide) ?_ | refine J.region mixed hI (by kernel_rfl) ?_)
        refine Plan.callC (key := 1000) (q := 4) rfl rfl rfl (hcr) Try.func29 rfl rfl (by intro _ e; cases e; decide) (by repeat (first | exact Opnds.nil | refine Opnds.cons rfl (by exact Sub.refl _) ?_)) rfl hA rfl ?_
        intro _ _
        repeat (first | refine Plan.move rfl rfl rfl rfl ?_ | refine J.seq (J.region mixed hI (by kernel_rfl) ?_))
        refine Plan.callC (key := 1000) (q := 2) rfl rfl rfl (open_fn β l2 l2.length R (by omega)) Try.func12 rfl rfl (by intro _ e; cases e; decide) (by repeat (first | exact Opnds.nil | refine Opnds.cons rfl (by exact Sub.refl _) ?_)) rfl hA rfl ?_
        intro γ2 _
        repeat (first | refine Plan.move rfl rfl rfl rfl ?_ | refine Plan.assign rfl rfl rfl rfl ?_ | refine Plan.extract rfl rfl rfl rfl rfl ?_ | refine J.region mixed hI (by kernel_rfl) ?_)
        refine Plan.callC (key := 1000) (q := 4) rfl rfl rfl (ref_OpenL χ l2 l2.length R (by omega)) Try.func25 rfl rfl (by intro _ e; cases e; decide) (by repeat (first | exact Opnds.nil | refine Opnds.cons rfl (by exact Sub.refl _) ?_)) rfl hA rfl ?_
        intro δ2 _
        repeat (refine Plan.assign rfl rfl rfl rfl ?_)
        exact Nrm.mid (0, γ2, δ2, (openM l2).1, (openM l2).1.l.length, l2.take (openM l2).2, (if (openM l2).2 < l2.length then (openM l2).2 else l2.length)) hpo (by repeat (first | exact Weak.nil | refine Weak.cons rfl (Sub.refl _) ?_ | refine Weak.cons rfl (Sub.heap ((Ent.pickC (H' := [_, _]) [2, 4] rfl rfl).trans ((Ent.sep (Ent.refl _) Ent.one).trans (Ent.joinC (H1 := [_, _]))))) ?_))
      · repeat (first | refine Plan.assign rfl rfl rfl rfl ?_ | (refine Plan.ints rfl rfl rfl rfl rfl rfl ?_; (skip)) | refine J.region mixed hI (by kernel_rfl) ?_)
        refine J.condE rfl (fun k5 => ?_) (fun k5 => ?_)
        · have hpo := pl_open (k := i + 1) hR hpr hpd (open_okP l)
          repeat (first | (refine Plan.ints rfl rfl rfl rfl rfl rfl ?_; (skip)) | refine Plan.fieldC rfl rfl rfl rfl (by first | exact Try.underlying74 | exact Try.underlying51) rfl (by kernel_rfl) (by exact (rfl : _ = 0)) ?_ | refine Plan.loadC (key := 1000) (q := 0) rfl rfl rfl rfl rfl rfl (obj_reads1 rfl) (by exact Try.underlying3) (by rfl) (by decide) ?_ | refine J.seq (J.seq (J.region mixed hI (by kernel_rfl) ?_)))
          refine J.condE rfl (fun h => absurd h k4) (fun _ => ?_)
          repeat (first | refine Plan.move rfl rfl rfl rfl ?_ | refine J.seq (J.region mixed hI (by kernel_rfl) ?_) | refine J.skip ?_)
          refine Plan.callC (key := 1000) (q := 2) rfl rfl rfl (open_fn β l df R (by omega)) Try.func12 rfl rfl (by intro _ e; cases e; decide) (by repeat (first | exact Opnds.nil | refine Opnds.cons rfl (by exact Sub.refl _) ?_)) rfl hA rfl ?_
          intro γ2 _
          repeat (first | refine Plan.move rfl rfl rfl rfl ?_ | refine Plan.assign rfl rfl rfl rfl ?_ | refine Plan.extract rfl rfl rfl rfl rfl ?_ | refine J.region mixed hI (by kernel_rfl) ?_)
          refine Plan.callC (key := 1000) (q := 4) rfl rfl rfl (ref_OpenL χ l df R (by omega)) Try.func25 rfl rfl (by intro _ e; cases e; decide) (by repeat (first | exact Opnds.nil | refine Opnds.cons rfl (by exact Sub.refl _) ?_)) rfl hA rfl ?_
          intro δ2 _
          repeat (refine Plan.assign rfl rfl rfl rfl ?_)
          exact Nrm.mid (0, γ2, δ2, (openM l).1, (openM l).1.l.length, l.take (openM l).2, (if (openM l).2 < l.length then (openM l).2 else df)) hpo (by repeat (first | exact Weak.nil | refine Weak.cons rfl (Sub.refl _) ?_ | refine Weak.cons rfl (Sub.heap ((Ent.pickC (H' := [_, _]) [2, 4] rfl rfl).trans ((Ent.sep (Ent.refl _) Ent.one).trans (Ent.joinC (H1 := [_, _]))))) ?_))
        · refine J.skip ?_
          exact Nrm.mid (0, γ, δ, m, f, l, df) (hpa.more (by omega)) (by repeat (first | exact Weak.nil | refine Weak.cons rfl (Sub.refl _) ?_ | refine Weak.cons rfl (Sub.heap (Ent.pickC [1, 2, 3, 4] rfl rfl)) ?_))
    · rintro ⟨ec, γ, δ, m, f, l, df⟩ hpa
      simp only at hpa
      change J _ _ _ _ _ (plM w0 u β χ R sc i (ec, γ, δ, m, f, l, df))
      have hpf := hpa.few
      have hpr := hpa.room
      have hpd := hpa.fast
      repeat (first | refine Plan.move rfl rfl rfl rfl ?_ | refine J.seq (J.region mixed hI (by kernel_rfl) ?_))
      refine Plan.callR (key := 1000) (B := 0) (q := 0) rfl rfl rfl (log_Snapshot γ β m f) Try.func14 rfl rfl (fun _ _ => Nat.zero_le _) (by repeat (first | exact Opnds.nil | refine Opnds.cons rfl (by exact Sub.refl _) ?_)) rfl rfl (by decide) ?_
      repeat (first | refine Plan.move rfl rfl rfl rfl ?_ | refine Plan.assign rfl rfl rfl rfl ?_ | refine Plan.extract rfl rfl rfl rfl rfl ?_)
      refine J.exC (key := 1000) (q := 2) rfl rfl fun x => ?_
      refine J.sepC (key := 1000) (q := 2) rfl rfl ?_
      repeat (first | refine Plan.move rfl rfl rfl rfl ?_ | (refine Plan.ints rfl rfl rfl rfl rfl rfl ?_; (skip)) | refine J.seq (J.region mixed hI (by kernel_rfl) ?_))
      refine Plan.boolv (y := false) (by simp) ?_
      repeat (first | refine Plan.move rfl rfl rfl rfl ?_ | refine Plan.nilOk rfl rfl rfl rfl ?_ | refine Plan.fieldC rfl rfl rfl rfl (by first | exact Try.underlying74 | exact Try.underlying69) rfl (by kernel_rfl) (by exact (rfl : _ = 1)) ?_ | refine Plan.loadC (key := 1000) (q := 2) rfl rfl rfl rfl rfl rfl (obj_reads1 rfl) (by first | exact Try.underlying3 | exact Try.underlying9) (by rfl) (by decide) ?_)
      refine Plan.strs rfl rfl rfl rfl rfl rfl ?_
      refine Plan.boolv (y := false) (by simp) ?_
      repeat (first | refine Plan.move rfl rfl rfl rfl ?_ | refine Plan.pick rfl rfl rfl rfl rfl ?_ | refine Plan.nilOk rfl rfl rfl rfl ?_ | refine Plan.fieldC rfl rfl rfl rfl (by first | exact Try.underlying74 | exact Try.underlying69) rfl (by kernel_rfl) (by exact (rfl : _ = 2)) ?_ | refine Plan.loadC (key := 1000) (q := 2) rfl rfl rfl rfl rfl rfl (obj_reads1 rfl) (by first | exact Try.underlying3 | exact Try.underlying4) (by rfl) (by decide) ?_)
      refine Plan.bools rfl rfl rfl rfl rfl Try.underlying4 (.inr ⟨rfl, rfl⟩) ?_
      refine Plan.boolv (y := false) (by simp) ?_
      repeat (first | refine Plan.move rfl rfl rfl rfl ?_ | refine Plan.pick rfl rfl rfl rfl rfl ?_)
      refine Plan.callR (key := 1000) (B := 0) (q := 0) rfl rfl rfl (log_Events γ β m f (by omega)) Try.func16 rfl rfl (fun _ _ => Nat.zero_le _) (by repeat (first | exact Opnds.nil | refine Opnds.cons rfl (by exact Sub.refl _) ?_)) rfl rfl (by decide) ?_
      refine Plan.move rfl rfl rfl rfl ?_
      refine Plan.nilOk rfl rfl rfl rfl ?_
      refine Plan.fieldC rfl rfl rfl rfl (by exact Try.underlying69) rfl (by kernel_rfl) rfl ?_
      refine Plan.loadRowC (key := 1000) (q := 2) (q2 := 4) rfl rfl rfl rfl rfl rfl (obj_reads1 rfl) rfl (by exact Try.underlying35) (by rfl) (by decide) ?_
      refine Plan.call (B := w0.heap.size) rfl rfl rfl (sameE_fn m.l (by omega) hpa.ok) Try.func15 rfl rfl (hBb w0) (by repeat (first | exact Opnds.nil | refine Opnds.cons rfl (by first | exact Sub.refl _ | exact Sub.own) ?_)) ?_
      repeat (first | refine Plan.move rfl rfl rfl rfl ?_ | refine Plan.pick rfl rfl rfl rfl rfl ?_ | refine Plan.un rfl rfl rfl rfl rfl ?_)
      refine Plan.callR (key := 1000) (B := 0) (q := 0) rfl rfl rfl (log_Fast γ β m f) Try.func22 rfl rfl (fun _ _ => Nat.zero_le _) (by repeat (first | exact Opnds.nil | refine Opnds.cons rfl (by exact Sub.refl _) ?_)) rfl rfl (by decide) ?_
      repeat (first | refine Plan.move rfl rfl rfl rfl ?_ | refine Plan.pick rfl rfl rfl rfl rfl ?_ | (refine Plan.ints rfl rfl rfl rfl rfl rfl ?_; (skip)) | refine Plan.nilOk rfl rfl rfl rfl ?_ | refine Plan.fieldC rfl rfl rfl rfl (by first | exact Try.underlying74 | exact Try.underlying69) rfl (by kernel_rfl) (by exact (rfl : _ = 4)) ?_ | refine Plan.loadC (key := 1000) (q := 2) rfl rfl rfl rfl rfl rfl (obj_reads1 rfl) (by exact Try.underlying3) (by rfl) (by decide) ?_)
      refine Plan.boolv (y := false) (by simp) ?_
      repeat (refine Plan.move rfl rfl rfl rfl ?_)
      refine Plan.callR (key := 1000) (B := 0) (q := 1) rfl rfl rfl (disk_Bytes β l df R (by omega)) Try.func13 rfl rfl (fun _ _ => Nat.zero_le _) (by repeat (first | exact Opnds.nil | refine Opnds.cons rfl (by exact Sub.refl _) ?_)) rfl rfl (by decide) ?_
      refine Plan.convBS (p := l) rfl rfl rfl rfl Sub.own Try.underlying27 Try.underlying9 Try.underlying5 ?_
      repeat (first | refine Plan.move rfl rfl rfl rfl ?_ | refine Plan.nilOk rfl rfl rfl rfl ?_ | refine Plan.fieldC rfl rfl rfl rfl (by first | exact Try.underlying74 | exact Try.underlying71) rfl (by kernel_rfl) (by exact (rfl : _ = 0)) ?_)
      refine Plan.loadC (key := 1000) (q := 3) rfl rfl rfl rfl rfl rfl (obj_reads1 rfl) (by exact Try.underlying9) (by rfl) (by decide) ?_
      refine Plan.strs rfl rfl rfl rfl rfl rfl ?_
      refine Plan.boolv (y := false) (by simp) ?_
      repeat (first | refine Plan.move rfl rfl rfl rfl ?_ | refine Plan.pick rfl rfl rfl rfl rfl ?_)
      refine Plan.callR (key := 1000) (B := 0) (q := 1) rfl rfl rfl (disk_Fast β l df R) Try.func30 rfl rfl (fun _ _ => Nat.zero_le _) (by repeat (first | exact Opnds.nil | refine Opnds.cons rfl (by exact Sub.refl _) ?_)) rfl rfl (by decide) ?_
      repeat (first | refine Plan.move rfl rfl rfl rfl ?_ | refine Plan.nilOk rfl rfl rfl rfl ?_ | refine Plan.fieldC rfl rfl rfl rfl (by first | exact Try.underlying74 | exact Try.underlying71) rfl (by kernel_rfl) (by exact (rfl : _ = 1)) ?_)
      refine Plan.loadC (key := 1000) (q := 3) rfl rfl rfl rfl rfl rfl (obj_reads1 rfl) (by exact Try.underlying3) (by rfl) (by decide) ?_
      repeat (first | refine Plan.pick rfl rfl rfl rfl rfl ?_ | (refine Plan.ints rfl rfl rfl rfl rfl rfl ?_; (skip)))
      refine Plan.boolv (y := false) (by simp) ?_
      repeat (first | refine Plan.move rfl rfl rfl rfl ?_ | (refine Plan.ints rfl rfl rfl rfl rfl rfl ?_; (refine Plan.int (i64r (by omega)) ?_)) | refine J.region mixed hI (by kernel_rfl) ?_ | refine J.condF rfl ?_ | refine J.skip ?_)
      refine Plan.int (y := ((i + 1 : Nat) : Int)) (by omega) ?_
      repeat (fail)
      exact Nrm.next (i + 1, γ, δ, m, f, l, df) ⟨hlt, hpa⟩ (by dsimp only; omega) (by repeat (first | exact Weak.nil | refine Weak.cons rfl (Sub.refl _) ?_ | refine Weak.cons rfl (Sub.heap ((Ent.pickC (H' := [logC γ β m f, diskC β l df R, obj δ [ptr χ, str m.s, .bool m.b, .slice x.1 m.l.length x.2, vi f], rowEv x.1 m.l.length x.2 (evsC m.l), refC χ l df R]) [0, 1, 2, 4, 3] rfl rfl).trans (Ent.sep (Ent.refl _) (Ent.sep (Ent.refl _) log_closeL)))) ?_))
  · refine J.exit ?_
    refine J.exC (key := 1000) (q := 2) rfl rfl fun x => ?_
    refine J.sepC (key := 1000) (q := 2) rfl rfl ?_
    repeat (first | refine Plan.move rfl rfl rfl rfl ?_ | refine J.seq (J.region mixed hI (by kernel_rfl) ?_))
    refine Plan.callR (key := 1000) (B := 0) (q := 0) rfl rfl rfl (log_Events γ β m f (by omega)) Try.func16 rfl rfl (fun _ _ => Nat.zero_le _) (by repeat (first | exact Opnds.nil | refine Opnds.cons rfl (by exact Sub.refl _) ?_)) rfl rfl (by decide) ?_
    refine Plan.move rfl rfl rfl rfl ?_
    refine Plan.nilOk rfl rfl rfl rfl ?_
    refine Plan.fieldC rfl rfl rfl rfl (by exact Try.underlying69) rfl (by kernel_rfl) rfl ?_
    refine Plan.loadRowC (key := 1000) (q := 2) (q2 := 4) rfl rfl rfl rfl rfl rfl (obj_reads1 rfl) rfl (by exact Try.underlying35) (by rfl) (by decide) ?_
    refine Plan.call (B := w0.heap.size) rfl rfl rfl (sameE_fn m.l (by omega) hpa.ok) Try.func15 rfl rfl (hBb w0) (by repeat (first | exact Opnds.nil | refine Opnds.cons rfl (by first | exact Sub.refl _ | exact Sub.own) ?_)) ?_
    repeat (refine Plan.assign rfl rfl rfl rfl ?_)
    exact J.ret (Nrm.ret1 rfl (fun _ h => h) rfl fun B _ => Sub.refl _)
end Go.Proofs.Ytepgphflnelpoaa
end
