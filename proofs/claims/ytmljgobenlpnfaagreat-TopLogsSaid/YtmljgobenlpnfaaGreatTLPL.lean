/-
  Laid together: AofOpen, AofAdd, AofSame, AofRewrite, FlatDeep, AofOp, DiskCrash, AofLaid, FrameFlip, AofCrashP, TopLaw, TopTail, TopTailB, TopTailC, TopTailD, TopLogs.
-/
import Derived.Test.YtmljgobenlpnfaaGreatTLPK
set_option linter.unusedSimpArgs false
set_option linter.unusedVariables false
set_option maxRecDepth 20000

section
namespace Go.Proofs.YtmljgobenlpnfaaGreat
open Go.Free Go.RowKit Go.Proofs
set_option maxHeartbeats 4000000
theorem take_len {m m' : LogV} {b : List UInt8} {f : Bool} (h : takeM m b f = some m') : m'.l.length ≤ m.l.length + 1 := by
  cases b with
  | nil => cases h
  | cons x r =>
    unfold takeM at h
    simp only at h
    split at h
    · cases h; exact Nat.le_add_right _ _
    · split at h
      · cases h; simp
      · cases h
theorem takes_len : ∀ (bs : List (List UInt8)) (f : Bool) (m : LogV) (p : Nat), (takesM bs f m p).1.l.length ≤ m.l.length + bs.length
  | [], f, m, p => Nat.le_refl _
  | b :: r, f, m, p => by
    cases h : takeM m b f with
    | none => rw [takes_none h]; exact Nat.le_add_right _ _
    | some m' =>
      rw [takes_some h]
      have h1 := takes_len r false m' (p + b.length + 6)
      have h2 := take_len h
      rw [List.length_cons]; omega
theorem scan_few (l : List UInt8) : (scanL l 0).1.length ≤ l.length := by
  have := scanL_le l l.length 0 rfl (Nat.zero_le _); omega
theorem open_len (l : List UInt8) : (openM l).1.l.length ≤ l.length := by
  have h1 := takes_len (scanL l 0).1 true log0 0
  have h2 := scan_few l
  have h3 : log0.l.length = 0 := rfl
  unfold openM; omega
def opD (F : Nat → Prop) (w0 w1 : World) (B : Nat) (b : Nat) : Prop := ((F b ∨ w0.heap.size ≤ b) ∧ b < B) ∨ w1.heap.size ≤ b
def opE (F : Nat → Prop) (w0 w1 : World) (B β γ : Nat) (l : List UInt8) (f r : Nat) (bs : List (List UInt8)) (s : Nat × LogV × Nat) : Env :=
  [(0, .ex (ptr β)), (4, .ex (ptr γ)), (5, .old w1 (ownB B l)), (9, .ex (vi s.2.2)), (25, .old w1 (nestB B bs)), (26, .ex (vi bs.length)), (27, .ex (vi s.1)),
   (1000, heap (opD F w0 w1 B) [diskC β l f r, logC γ β s.2.1 0])]
def opN (F : Nat → Prop) (w0 w1 : World) (B β γ : Nat) (l : List UInt8) (f r : Nat) (m : LogV) (p : Nat) : Env :=
  [(0, .ex (ptr β)), (4, .ex (ptr γ)), (5, .old w1 (ownB B l)), (9, .ex (vi p)), (1000, heap (opD F w0 w1 B) [diskC β l f r, logC γ β m 0])]
theorem open_fn (β : Nat) (l : List UInt8) (f r : Nat) (hl : l.length ≤ 65536) :
    SpcC Tryz.prog 6 [.ex (ptr β)] (diskC β l f r) (fun _ : Nat => True) (fun γ => .tup [.ex (ptr γ), .ex (vi 0)])
      (fun γ => allC [logC γ β (openM l).1 (openM l).1.l.length, diskC β (l.take (openM l).2) (if (openM l).2 < l.length then (openM l).2 else f) r]) := by
  have hag := (open_again l).1
  have hol := open_len l
  have hfew := scan_few l
  obtain ⟨hb1, hb2, t, hb3⟩ := scan_is l l.length 0 rfl (Nat.zero_le _)
  rw [List.drop_zero] at hb3
  have hbl : (frames (scanL l 0).1).length ≤ l.length := by have := congrArg List.length hb3; rw [List.length_append] at this; omega
  have hop : takesM (scanL l 0).1 true log0 0 = openM l := rfl
  have hscan := frame_Scan l (by omega)
  generalize scanL l 0 = sc at *
  obtain ⟨bs, se⟩ := sc
  dsimp only at *
  refine SpcC.intro Tryz.func6 rfl (Nat.le_of_ble_eq_true rfl) fun w0 F => ?_
  have hI := kept_below F w0
  have hA := Own.kept F w0
  repeat (first | refine Plan.move rfl rfl rfl rfl ?_ | refine Plan.assign rfl rfl rfl rfl ?_ | refine Plan.eqlPtr rfl rfl rfl rfl (by kernel_rfl) ?_ | refine J.seq (J.region mixed hI (by kernel_rfl) ?_) | refine J.seq (J.seq (J.region mixed hI (by kernel_rfl) ?_)) | refine J.condF rfl ?_ | refine J.skip ?_)
  refine Plan.build rfl rfl rfl (Parts.cons rfl Parts.nil) (cells := #[ptr β, str [], .bool false, .slice none 0 0, vi 0]) (by kernel_rfl) ?_
  refine Plan.boxC (key := 1000) rfl rfl rfl (by intro _ e; cases e; decide) rfl rfl hA fun γ => ?_
  repeat (refine Plan.assign rfl rfl rfl rfl ?_)
  refine J.nilRow (key := 1000) 40 26 rfl ?_
  refine J.regroup (key := 1000) [diskC β l f r, logC γ β log0 0] rfl (Ent.sep (Ent.refl _) ((log_close (m := log0) (B := none) (cap := 0)).trans Ent.addEmp)) ?_
  refine J.fresh (key := 1000) rfl hA fun B hBA => ?_
  have hI := hFresh (B := B) (kept_below F w0)
  have hA := own_fresh (B := B) (Own.kept F w0)
  repeat (first | refine Plan.move rfl rfl rfl rfl ?_ | refine J.seq (J.region mixed hI (by kernel_rfl) ?_))
  refine Plan.callR (key := 1000) (B := B) (q := 0) rfl rfl rfl (disk_Bytes β l f r hl) Tryz.func20 rfl rfl (fun _ h => h.2) (by repeat (first | exact Opnds.nil | refine Opnds.cons rfl (by exact Sub.refl _) ?_)) rfl rfl (by decide) ?_
  repeat (first | refine Plan.move rfl rfl rfl rfl ?_ | refine Plan.assign rfl rfl rfl rfl ?_ | refine J.seq (J.region mixed hI (by kernel_rfl) ?_))
  refine Plan.call (B := B) rfl rfl rfl hscan Tryz.func21 rfl rfl (fun _ h => h.2) (by repeat (first | exact Opnds.nil | refine Opnds.cons rfl (by exact Sub.own) ?_)) ?_
  repeat (first | refine Plan.move rfl rfl rfl rfl ?_ | refine Plan.assign rfl rfl rfl rfl ?_ | refine Plan.extract rfl rfl rfl rfl rfl ?_)
  refine J.since (key := 1000) (B := B) (A := fun b => F b ∨ w0.heap.size ≤ b) rfl hA fun w1 hw1 h1A => ?_
  have hI2 := since_I (G := fun b => (F b ∨ w0.heap.size ≤ b) ∧ b < B) (w1 := w1) hI
  have hA2 := since_own (G := fun b => (F b ∨ w0.heap.size ≤ b) ∧ b < B) (w1 := w1) hA (fun b hb => hb.1) h1A
  have hGB : ∀ b, (F b ∨ w0.heap.size ≤ b) ∧ b < B → b < B := fun b hb => hb.2
  have hI0 := hI
  clear hI
  have hI := hI2
  clear hA
  have hA := hA2
  refine J.seq (J.region mixed hI (by kernel_rfl) ?_)
  repeat (refine Plan.assign rfl rfl rfl rfl ?_)
  refine J.seqMid (σ := Unit) (fun _ => opN F w0 w1 B β γ l f r (openM l).1 (openM l).2) (fun _ => True) ?_ ?_
  · repeat (first | refine Plan.move rfl rfl rfl rfl ?_ | refine J.seq (J.region mixed hI (by kernel_rfl) ?_))
    refine Plan.lenNest rfl rfl rfl rfl (Sub.sinceNestR hGB) Tryz.underlying62 ?_
    rw [List.length_map]
    repeat (refine Plan.move rfl rfl rfl rfl ?_)
    refine J.block (J.loop (opE F w0 w1 B β γ l f r bs) (fun s => s.1 ≤ bs.length ∧ takesM (bs.drop s.1) (decide (s.1 = 0)) s.2.1 s.2.2 = openM l ∧ s.2.2 = (frames (bs.take s.1)).length ∧ s.2.1.l.length ≤ s.1) (fun s => bs.length - s.1) (0, log0, 0) ⟨Nat.zero_le _, hop, rfl, Nat.le_refl _⟩ ?_ ?_)
    · repeat (first | exact Weak.nil | refine Weak.cons rfl (Sub.refl _) ?_)
    rintro ⟨i, m, p⟩ ⟨hi, htk, hp, hml⟩
    simp only at hi htk hp hml
    change J _ _ _ _ _ (opE F w0 w1 B β γ l f r bs (i, m, p))
    repeat (first | (refine Plan.ints rfl rfl rfl rfl rfl rfl ?_; (skip)) | refine J.seq (J.region mixed hI (by kernel_rfl) ?_))
    refine J.seq (J.condD rfl (fun hc => ?_) (fun hc => ?_))
    · have hlt : i < bs.length := by
        dsimp only at hc; omega
      obtain ⟨b, hb⟩ : ∃ b, b = bs[i] := ⟨_, rfl⟩
      have hbi : bs[i]? = some b := by rw [hb]; exact List.getElem?_eq_getElem hlt
      have hdr : bs.drop i = b :: bs.drop (i + 1) := by rw [hb]; exact List.drop_eq_getElem_cons hlt
      have hbm : b ∈ bs := hb ▸ List.getElem_mem hlt
      have hb6 := hb1 b hbm
      have hti : frames (bs.take (i + 1)) = frames (bs.take i) ++ fPut b := by rw [List.take_succ_eq_append_getElem hlt, frames_append, ← hb, frames_cons]; simp [frames]
      have hpl : p + b.length + 6 ≤ l.length := by
        have h1 : frames bs = frames (bs.take (i + 1)) ++ frames (bs.drop (i + 1)) := by rw [← frames_append, List.take_append_drop]
        have h2 := congrArg List.length h1
        rw [hti, List.length_append, List.length_append, fPut_length] at h2
        omega
      repeat (refine J.skip ?_)
      refine J.seq (J.block ?_)
      repeat (first | refine Plan.move rfl rfl rfl rfl ?_ | refine J.seq (J.region mixed hI (by kernel_rfl) ?_))
      refine Plan.indexNest (q := i) (f := .old w1 (ownB B b)) rfl rfl rfl rfl (Sub.sinceNestR hGB) rfl eltBB (by rw [List.getElem?_map, hbi]; rfl) ?_
      refine Plan.loadNest rfl rfl rfl rfl (Sub.refl _) Tryz.underlying56 rfl ?_
      repeat (first | refine Plan.move rfl rfl rfl rfl ?_ | refine Plan.assign rfl rfl rfl rfl ?_ | (refine Plan.ints rfl rfl rfl rfl rfl rfl ?_; (skip)) | refine J.seq (J.seq (J.region mixed hI (by kernel_rfl) ?_)))
      refine Plan.boolv (y := decide (i = 0)) (decide_eq_decide.2 (by omega)) ?_
      refine Plan.callC (key := 1000) (q := 1) rfl rfl rfl (takes_fn γ β m 0 b (decide (i = 0)) (by omega) (by omega)) Tryz.func22 rfl rfl (by intro _ e; cases e; decide) (Opnds.cons rfl (Sub.refl _) (Opnds.cons rfl (Sub.trans (Sub.sinceOwn hGB) Sub.own) (Opnds.cons rfl (Sub.refl _) Opnds.nil))) rfl hA rfl ?_
      intro _ _
      rw [hdr] at htk
      cases htm : takeM m b (decide (i = 0)) with
      | none =>
        rw [takes_none htm] at htk
        repeat (first | refine Plan.un rfl rfl rfl rfl rfl ?_ | refine J.condT rfl ?_)
        refine J.exit ?_
        have e1 : m = (openM l).1 := congrArg Prod.fst htk
        have e2 : p = (openM l).2 := congrArg Prod.snd htk
        subst e1
        rw [e2]
        exact Nrm.mid () trivial (by repeat (first | exact Weak.nil | refine Weak.cons rfl (Sub.refl _) ?_))
      | some m' =>
        rw [takes_some htm] at htk
        have hm' := take_len htm
        repeat (first | refine Plan.move rfl rfl rfl rfl ?_ | refine Plan.un rfl rfl rfl rfl rfl ?_ | refine J.region mixed hI (by kernel_rfl) ?_ | refine J.condF rfl ?_ | refine J.skip ?_)
        refine Plan.lenB rfl rfl rfl rfl (Sub.trans (Sub.sinceOwn hGB) Sub.own) Tryz.underlying56 ?_
        repeat (first | refine Plan.assign rfl rfl rfl rfl ?_ | (refine Plan.ints rfl rfl rfl rfl rfl rfl ?_; (first | refine Plan.int (i64r (by omega)) ?_ | skip)))
        refine Plan.int (y := ((p + b.length + 6 : Nat) : Int)) (by dsimp only; rw [i64r (by omega)]; omega) ?_
        repeat (first | refine Plan.move rfl rfl rfl rfl ?_ | (refine Plan.ints rfl rfl rfl rfl rfl rfl ?_; (refine Plan.int (i64r (by omega)) ?_)) | refine J.region mixed hI (by kernel_rfl) ?_)
        refine Plan.int (y := ((i + 1 : Nat) : Int)) (by omega) ?_
        repeat (fail)
        refine Nrm.next (i + 1, m', p + b.length + 6) ⟨by dsimp only; omega, ?_, by dsimp only; rw [hti, List.length_append, fPut_length]; omega, by dsimp only; omega⟩ (by dsimp only; omega) (by repeat (first | exact Weak.nil | refine Weak.cons rfl (Sub.refl _) ?_))
        exact htk
    · have hie : i = bs.length := by
        dsimp only at hc; omega
      rw [hie, List.drop_length] at htk
      refine J.exit ?_
      have e1 : m = (openM l).1 := congrArg Prod.fst htk
      have e2 : p = (openM l).2 := congrArg Prod.snd htk
      subst e1
      rw [e2]
      exact Nrm.mid () trivial (by repeat (first | exact Weak.nil | refine Weak.cons rfl (Sub.refl _) ?_))
  · intro _ _
    generalize openM l = o at *
    repeat (first | refine Plan.move rfl rfl rfl rfl ?_ | refine J.seq (J.seq (J.region mixed hI (by kernel_rfl) ?_)))
    refine Plan.lenB rfl rfl rfl rfl (Sub.trans (Sub.sinceOwn hGB) Sub.own) Tryz.underlying56 ?_
    repeat ((refine Plan.ints rfl rfl rfl rfl rfl rfl ?_; (skip)))
    refine J.condD rfl (fun hc => ?_) (fun hc => ?_)
    · have hlt : o.2 < l.length := by omega
      have hcut := disk_Cut β l f r o.2 hl (by omega)
      rw [if_pos (by omega), if_pos (by omega), Int.toNat_natCast] at hcut
      rw [if_pos hlt]
      repeat (first | refine Plan.move rfl rfl rfl rfl ?_ | refine J.region mixed hI (by kernel_rfl) ?_)
      refine Plan.callC (key := 1000) (q := 0) rfl rfl rfl (hcut) Tryz.func23 rfl rfl (by intro _ e; cases e; decide) (by repeat (first | exact Opnds.nil | refine Opnds.cons rfl (by exact Sub.refl _) ?_)) rfl hA rfl ?_
      intro _ _
      repeat (fail)
      refine J.idle (I' := fun w => Kept F w0 w) (fun w h => h.1.1) ?_
      have hI := kept_below F w0
      have hA := Own.kept F w0
      refine J.widen (key := 1000) (A := fun b => F b ∨ w0.heap.size ≤ b) rfl (fun b hb => hb.elim (fun h => h.1) (h1A b)) ?_
      refine J.exC (key := 1000) (q := 1) rfl rfl fun x => ?_
      refine J.sepC (key := 1000) (q := 1) rfl rfl ?_
      repeat (first | refine Plan.move rfl rfl rfl rfl ?_ | refine Plan.nilOk rfl rfl rfl rfl ?_ | refine Plan.fieldC rfl rfl rfl rfl (by first | exact Tryz.underlying58 | exact Tryz.underlying60) rfl (by kernel_rfl) (by exact (rfl : _ = 3)) ?_ | refine Plan.loadC (key := 1000) (q := 1) rfl rfl rfl rfl rfl rfl (obj_reads1 rfl) (by first | exact Tryz.underlying3 | exact Tryz.underlying22) (by rfl) (by decide) ?_ | refine J.seq (J.region mixed hI (by kernel_rfl) ?_))
      refine Plan.lenE rfl rfl rfl rfl Tryz.underlying22 ?_
      repeat (first | refine Plan.nilOk rfl rfl rfl rfl ?_ | refine Plan.fieldC rfl rfl rfl rfl (by first | exact Tryz.underlying58 | exact Tryz.underlying60) rfl (by kernel_rfl) (by exact (rfl : _ = 4)) ?_)
      refine Plan.storeC (key := 1000) (q := 1) rfl rfl rfl rfl rfl rfl (by simp [Value.cells, Value.oneCell', str]) (by kernel_rfl) rfl hA rfl (obj_pat1 (Nat.le_of_ble_eq_true rfl)) ?_
      repeat (first | refine Plan.move rfl rfl rfl rfl ?_ | refine Plan.assign rfl rfl rfl rfl ?_ | refine J.seq (J.region mixed hI (by kernel_rfl) ?_))
      exact J.ret (Nrm.retC2 (key := 1000) γ rfl rfl rfl trivial (Ress.cons rfl (Sub.refl _) (Ress.cons rfl (Sub.refl _) Ress.nil)) ((Ent.pickC (H' := [obj γ [ptr β, str (o).1.s, .bool (o).1.b, .slice x.1 (o).1.l.length x.2, vi (o).1.l.length], diskC β (l.take o.2) o.2 r, rowEv x.1 (o).1.l.length x.2 (evsC (o).1.l)]) [1, 0, 2] rfl rfl).trans log_disk))
    · have hle : l.length ≤ o.2 := by omega
      rw [if_neg (by omega), List.take_of_length_le hle]
      refine J.skip ?_
      refine J.idle (I' := fun w => Kept F w0 w) (fun w h => h.1.1) ?_
      have hI := kept_below F w0
      have hA := Own.kept F w0
      refine J.widen (key := 1000) (A := fun b => F b ∨ w0.heap.size ≤ b) rfl (fun b hb => hb.elim (fun h => h.1) (h1A b)) ?_
      refine J.exC (key := 1000) (q := 1) rfl rfl fun x => ?_
      refine J.sepC (key := 1000) (q := 1) rfl rfl ?_
      repeat (first | refine Plan.move rfl rfl rfl rfl ?_ | refine Plan.nilOk rfl rfl rfl rfl ?_ | refine Plan.fieldC rfl rfl rfl rfl (by first | exact Tryz.underlying58 | exact Tryz.underlying60) rfl (by kernel_rfl) (by exact (rfl : _ = 3)) ?_ | refine Plan.loadC (key := 1000) (q := 1) rfl rfl rfl rfl rfl rfl (obj_reads1 rfl) (by first | exact Tryz.underlying3 | exact Tryz.underlying22) (by rfl) (by decide) ?_ | refine J.seq (J.region mixed hI (by kernel_rfl) ?_))
      refine Plan.lenE rfl rfl rfl rfl Tryz.underlying22 ?_
      repeat (first | refine Plan.nilOk rfl rfl rfl rfl ?_ | refine Plan.fieldC rfl rfl rfl rfl (by first | exact Tryz.underlying58 | exact Tryz.underlying60) rfl (by kernel_rfl) (by exact (rfl : _ = 4)) ?_)
      refine Plan.storeC (key := 1000) (q := 1) rfl rfl rfl rfl rfl rfl (by simp [Value.cells, Value.oneCell', str]) (by kernel_rfl) rfl hA rfl (obj_pat1 (Nat.le_of_ble_eq_true rfl)) ?_
      repeat (first | refine Plan.move rfl rfl rfl rfl ?_ | refine Plan.assign rfl rfl rfl rfl ?_ | refine J.seq (J.region mixed hI (by kernel_rfl) ?_))
      exact J.ret (Nrm.retC2 (key := 1000) γ rfl rfl rfl trivial (Ress.cons rfl (Sub.refl _) (Ress.cons rfl (Sub.refl _) Ress.nil)) ((Ent.pickC (H' := [obj γ [ptr β, str (o).1.s, .bool (o).1.b, .slice x.1 (o).1.l.length x.2, vi (o).1.l.length], diskC β l f r, rowEv x.1 (o).1.l.length x.2 (evsC (o).1.l)]) [1, 0, 2] rfl rfl).trans log_disk))
end Go.Proofs.YtmljgobenlpnfaaGreat
end

section
namespace Go.Proofs.YtmljgobenlpnfaaGreat
open Go.Free Go.RowKit Go.Proofs
set_option maxHeartbeats 4000000
def evF (e : EvV) : List UInt8 := fPut (0 :: encB e)
def addM (m : LogV) (l : List UInt8) (r : Nat) (e : EvV) : LogV × List UInt8 × Nat :=
  if rightP e then if l.length + (evF e).length ≤ r then (⟨m.s, m.b, m.l ++ [e]⟩, l ++ evF e, 0) else (m, l, 9) else (m, l, 1)
theorem evF_le {e : EvV} (h : rightP e) : (evF e).length ≤ 707 := by
  have := encB_le h
  unfold evF; rw [fPut_length, List.length_cons]; omega
theorem add_fn (γ β : Nat) (m : LogV) (f : Nat) (l : List UInt8) (df r : Nat) (e : EvV) (he : e.okV) (hm : m.l.length ≤ 1000000) (hl : l.length ≤ r) (hr : r ≤ 65536) :
    SpcC Tryz.prog 8 [.ex (ptr γ), .ex (aggE e)] (allC [logC γ β m f, diskC β l df r]) (fun _ : Unit => True) (fun _ => .ex (vi (addM m l r e).2.2))
      (fun _ => allC [logC γ β (addM m l r e).1 f, diskC β (addM m l r e).2.1 df r]) := by
  refine SpcC.intro Tryz.func8 rfl (Nat.le_of_ble_eq_true rfl) fun w0 F => ?_
  have hI := kept_below F w0
  have hA := Own.kept F w0
  refine J.open1 (key := 1000) rfl ?_
  refine J.exC (key := 1000) (q := 0) rfl rfl fun x => ?_
  refine J.sepC (key := 1000) (q := 0) rfl rfl ?_
  have hfr := framed_fn e he
  repeat (refine J.seq (J.region mixed hI (by kernel_rfl) ?_))
  refine Plan.boxC (key := 1000) rfl rfl rfl (by intro _ e; cases e; decide) rfl rfl hA fun α => ?_
  repeat (first | refine Plan.move rfl rfl rfl rfl ?_ | refine Plan.assign rfl rfl rfl rfl ?_ | refine Plan.pick rfl rfl rfl rfl rfl ?_ | refine Plan.nilOk rfl rfl rfl rfl ?_ | refine Plan.fieldC rfl rfl rfl rfl (by first | exact Tryz.underlying58 | exact Tryz.underlying60) rfl (by kernel_rfl) (by exact (rfl : _ = 0)) ?_ | refine Plan.loadC (key := 1000) (q := 0) rfl rfl rfl rfl rfl rfl (obj_reads1 rfl) (by first | exact Tryz.underlying3 | exact Tryz.underlying26) (by rfl) (by decide) ?_ | refine Plan.eqlPtr rfl rfl rfl rfl (by kernel_rfl) ?_ | refine J.seq (J.region mixed hI (by kernel_rfl) ?_) | refine J.seq (J.seq (J.region mixed hI (by kernel_rfl) ?_)) | refine J.condF rfl ?_ | refine J.skip ?_)
  refine Plan.loadAggC (key := 1000) (q := 3) (vs := e.enc) rfl rfl rfl rfl rfl rfl obj_whole Tryz.underlying40 rfl (by rw [encE]; kernel_rfl) (by decide) ?_
  by_cases hp : rightP e
  · have hle := evF_le hp
    rw [if_pos hp, if_pos hp] at hfr
    refine Plan.call (B := 0) rfl rfl rfl (hfr) Tryz.func33 rfl rfl (fun _ _ => Nat.zero_le _) (by repeat (first | exact Opnds.nil | refine Opnds.cons rfl (by exact Sub.refl _) ?_)) ?_
    repeat (first | refine Plan.move rfl rfl rfl rfl ?_ | refine Plan.assign rfl rfl rfl rfl ?_ | refine Plan.extract rfl rfl rfl rfl rfl ?_ | (refine Plan.ints rfl rfl rfl rfl rfl rfl ?_; (skip)) | refine Plan.nilOk rfl rfl rfl rfl ?_ | refine Plan.fieldC rfl rfl rfl rfl (by first | exact Tryz.underlying58 | exact Tryz.underlying60) rfl (by kernel_rfl) (by exact (rfl : _ = 0)) ?_ | refine Plan.loadC (key := 1000) (q := 0) rfl rfl rfl rfl rfl rfl (obj_reads1 rfl) (by first | exact Tryz.underlying3 | exact Tryz.underlying26) (by rfl) (by decide) ?_ | refine J.seq (J.seq (J.region mixed hI (by kernel_rfl) ?_)) | refine J.condF rfl ?_ | refine J.skip ?_)
    have hap := disk_Append β l df r (evF e) hl hr (by omega)
    by_cases hfit : l.length + (evF e).length ≤ r
    · have hadd : addM m l r e = (⟨m.s, m.b, m.l ++ [e]⟩, l ++ evF e, 0) := by unfold addM; rw [if_pos hp, if_pos hfit]
      rw [if_pos hfit, if_pos hfit] at hap
      rw [hadd]
      refine Plan.callC (key := 1000) (q := 1) rfl rfl rfl (hap) Tryz.func34 rfl rfl (by intro _ e; cases e; decide) (by repeat (first | exact Opnds.nil | refine Opnds.cons rfl (by first | exact Sub.refl _ | exact Sub.own) ?_)) rfl hA rfl ?_
      intro _ _
      repeat (refine Plan.assign rfl rfl rfl rfl ?_)
      refine J.seq (J.region mixed hI (by kernel_rfl) ?_)
      repeat (first | refine Plan.move rfl rfl rfl rfl ?_ | (refine Plan.ints rfl rfl rfl rfl rfl rfl ?_; (skip)))
      refine J.condF rfl ?_
      refine J.skip ?_
      refine J.seq (J.loose2 [(0, ptr γ)] [(0, .ex (ptr γ))] mixed hI rfl rfl rfl (by kernel_rfl) (by kernel_rfl) (by kernel_rfl) rfl rfl (fun ⟨_, _, h⟩ => h) (fun _ _ _ _ h => h) (by repeat (first | exact Weak.nil | refine Weak.cons rfl (Sub.refl _) ?_)) ?_ ?_)
      · exact Gives.cons [(0, .ex (ptr γ))] (by kernel_rfl) rfl (by kernel_rfl) (Plan.move rfl rfl rfl rfl (Plan.gives rfl)) Gives.nil
      repeat (first | refine Plan.move rfl rfl rfl rfl ?_ | refine Plan.assign rfl rfl rfl rfl ?_ | refine Plan.nilOk rfl rfl rfl rfl ?_ | refine Plan.fieldC rfl rfl rfl rfl (by first | exact Tryz.underlying58 | exact Tryz.underlying60) rfl (by kernel_rfl) (by exact (rfl : _ = 3)) ?_ | refine Plan.loadC (key := 1000) (q := 0) rfl rfl rfl rfl rfl rfl (obj_reads1 rfl) (by exact Tryz.underlying22) (by rfl) (by decide) ?_)
      refine Plan.loadAggC (key := 1000) (q := 3) (vs := e.enc) rfl rfl rfl rfl rfl rfl obj_whole Tryz.underlying40 rfl (by rw [encE]; kernel_rfl) (by decide) ?_
      refine Plan.lit (B := 0) rfl rfl rfl eltE rfl (fun _ _ => Nat.zero_le _) rfl (fun v hv => by rw [List.mem_singleton.1 hv]; rfl) (by decide) ?_
      refine Plan.appendC (key := 1000) (q := 2) (news := e.enc) rfl rfl rfl rfl rfl Sub.own eltE (by intro _ e; cases e; decide) rfl hA rfl (encE_one e) (by rw [evs_len, encE]; omega) fun B1 m1 c1 hm1 => ?_
      obtain rfl : m1 = (m.l ++ [e]).length := by rw [evs_len, encE] at hm1; simp only [List.length_append, List.length_cons, List.length_nil]; omega
      rw [evs_snoc]
      repeat (first | refine Plan.nilOk rfl rfl rfl rfl ?_ | refine Plan.fieldC rfl rfl rfl rfl (by first | exact Tryz.underlying58 | exact Tryz.underlying60) rfl (by kernel_rfl) (by exact (rfl : _ = 3)) ?_)
      refine Plan.storeC (key := 1000) (q := 0) rfl rfl rfl rfl rfl rfl (by simp [Value.cells, Value.oneCell', str]) (by kernel_rfl) rfl hA rfl (obj_pat1 (Nat.le_of_ble_eq_true rfl)) ?_
      repeat (first | refine Plan.assign rfl rfl rfl rfl ?_ | refine J.seq (J.region mixed hI (by kernel_rfl) ?_))
      exact J.ret (Nrm.retC1 (key := 1000) () rfl rfl rfl trivial (Sub.refl _) ((Ent.pickC (H' := [obj γ [ptr β, str m.s, .bool m.b, .slice B1 (m.l ++ [e]).length c1, vi f], diskC β (l ++ evF e) df r, rowEv B1 (m.l ++ [e]).length c1 (evsC (m.l ++ [e]))]) [0, 1, 2] rfl rfl).trans (log_disk (m := ⟨m.s, m.b, m.l ++ [e]⟩))))
    · have hadd : addM m l r e = (m, l, 9) := by unfold addM; rw [if_pos hp, if_neg hfit]
      rw [if_neg hfit, if_neg hfit] at hap
      rw [hadd]
      refine Plan.callC (key := 1000) (q := 1) rfl rfl rfl (hap) Tryz.func34 rfl rfl (by intro _ e; cases e; decide) (by repeat (first | exact Opnds.nil | refine Opnds.cons rfl (by first | exact Sub.refl _ | exact Sub.own) ?_)) rfl hA rfl ?_
      intro _ _
      repeat (first | refine Plan.move rfl rfl rfl rfl ?_ | refine Plan.assign rfl rfl rfl rfl ?_ | (refine Plan.ints rfl rfl rfl rfl rfl rfl ?_; (skip)) | refine J.seq (J.region mixed hI (by kernel_rfl) ?_) | refine J.condT rfl ?_)
      exact J.ret (Nrm.retC1 (key := 1000) () rfl rfl rfl trivial (Sub.refl _) ((Ent.pickC (H' := [obj γ [ptr β, str m.s, .bool m.b, .slice x.1 m.l.length x.2, vi f], diskC β l df r, rowEv x.1 m.l.length x.2 (evsC m.l)]) [0, 1, 2] rfl rfl).trans log_disk))
  · have hadd : addM m l r e = (m, l, 1) := by unfold addM; rw [if_neg hp]
    rw [if_neg hp, if_neg hp] at hfr
    rw [hadd]
    refine Plan.call (B := 0) rfl rfl rfl (hfr) Tryz.func33 rfl rfl (fun _ _ => Nat.zero_le _) (by repeat (first | exact Opnds.nil | refine Opnds.cons rfl (by exact Sub.refl _) ?_)) ?_
    repeat (first | refine Plan.move rfl rfl rfl rfl ?_ | refine Plan.assign rfl rfl rfl rfl ?_ | refine Plan.extract rfl rfl rfl rfl rfl ?_ | (refine Plan.ints rfl rfl rfl rfl rfl rfl ?_; (skip)) | refine J.seq (J.region mixed hI (by kernel_rfl) ?_) | refine J.seq (J.seq (J.region mixed hI (by kernel_rfl) ?_)) | refine J.condT rfl ?_)
    exact J.ret (Nrm.retC1 (key := 1000) () rfl rfl rfl trivial (Sub.refl _) ((Ent.pickC (H' := [obj γ [ptr β, str m.s, .bool m.b, .slice x.1 m.l.length x.2, vi f], diskC β l df r, rowEv x.1 m.l.length x.2 (evsC m.l)]) [0, 1, 2] rfl rfl).trans log_disk))
theorem open_nil : openM [] = (log0, 0) := by
  unfold openM
  rw [scanL_stop (by simp)]
  rfl
end Go.Proofs.YtmljgobenlpnfaaGreat
end

section
namespace Go.Proofs.YtmljgobenlpnfaaGreat
open Go.Free Go.RowKit Go.Proofs
set_option maxHeartbeats 4000000
theorem formedEv (zs : Array Value) (h : zs.size = kdsEvent.length) : (Value.agg zs).formed Tryz.prog 40 = true := by
  have hc : Tryz.prog.cellsOf 40 = 26 := by kernel_rfl
  unfold Value.formed
  rw [Tryz.underlying40]
  simp only [hc, h]
  rfl
def saE (w0 : World) (L : List EvV) (i : Nat) : Env := [(0, old w0 (row 26 (evsC L))), (1, old w0 (row 26 (evsC L))), (12, .ex (vi L.length)), (13, .ex (vi i))]
theorem sameE_fn (L : List EvV) (hl : L.length ≤ 1000000) (hok : ∀ x ∈ L, x.okV) : Spc Tryz.prog 13 [row 26 (evsC L), row 26 (evsC L)] fun _ => .ex (.bool true) := by
  refine Spc.intro Tryz.func13 rfl (Nat.le_of_ble_eq_true rfl) fun w0 => ?_
  have hI := hIb w0
  repeat (first | refine Plan.move rfl rfl rfl rfl ?_ | refine Plan.assign rfl rfl rfl rfl ?_ | refine J.seq (J.region mixed hI (by kernel_rfl) ?_) | refine J.seq (J.seq (J.region mixed hI (by kernel_rfl) ?_)))
  refine Plan.lenRow (m := L.length) rfl rfl rfl rfl (Sub.old fun _ h => h) Tryz.underlying22 (by rw [evs_len]) (by decide) ?_
  repeat (refine Plan.move rfl rfl rfl rfl ?_)
  refine Plan.lenRow (m := L.length) rfl rfl rfl rfl (Sub.old fun _ h => h) Tryz.underlying22 (by rw [evs_len]) (by decide) ?_
  repeat ((refine Plan.ints rfl rfl rfl rfl rfl rfl ?_; (skip)))
  refine Plan.boolv (y := false) (by simp) ?_
  repeat (first | refine Plan.move rfl rfl rfl rfl ?_ | refine J.seq (J.seq (J.region mixed hI (by kernel_rfl) ?_)) | refine J.condF rfl ?_ | refine J.skip ?_)
  refine Plan.lenRow (m := L.length) rfl rfl rfl rfl (Sub.old fun _ h => h) Tryz.underlying22 (by rw [evs_len]) (by decide) ?_
  repeat (refine Plan.move rfl rfl rfl rfl ?_)
  refine J.block (J.loop (saE w0 L) (fun i => i ≤ L.length) (fun i => L.length - i) 0 (Nat.zero_le _) ?_ ?_)
  · repeat (first | exact Weak.nil | refine Weak.cons rfl (Sub.refl _) ?_)
  intro i hi
  repeat (first | (refine Plan.ints rfl rfl rfl rfl rfl rfl ?_; (skip)) | refine J.seq (J.region mixed hI (by kernel_rfl) ?_))
  refine J.seq (J.condD rfl (fun hc => ?_) (fun hc => ?_))
  · have hlt : i < L.length := by omega
    have hx : L[i]? = some L[i] := List.getElem?_eq_getElem hlt
    have hgd : L.getD i ev0 = L[i] := by rw [List.getD_eq_getElem?_getD, hx]; rfl
    have hki := hok _ (List.getElem_mem hlt)
    repeat (refine J.skip ?_)
    refine J.seq (J.block ?_)
    repeat (first | refine Plan.move rfl rfl rfl rfl ?_ | refine Plan.assign rfl rfl rfl rfl ?_ | refine J.seq (J.region mixed hI (by kernel_rfl) ?_))
    refine Plan.indexAddr EvV.enc 26 L ev0 rfl rfl rfl rfl (Sub.old fun _ h => h) rfl eltE encE (by omega) (by omega) ?_
    rw [Int.toNat_natCast, hgd]
    refine Plan.loadAggP rfl rfl rfl rfl (Sub.refl _) Tryz.underlying40 rfl (by rw [encE]; kernel_rfl) ?_
    repeat (refine Plan.move rfl rfl rfl rfl ?_)
    refine Plan.indexAddr EvV.enc 26 L ev0 rfl rfl rfl rfl (Sub.old fun _ h => h) rfl eltE encE (by omega) (by omega) ?_
    rw [Int.toNat_natCast, hgd]
    refine Plan.loadAggP rfl rfl rfl rfl (Sub.refl _) Tryz.underlying40 rfl (by rw [encE]; kernel_rfl) ?_
    refine Plan.eqAgg (m := 9) (l := kdsEvent) (xs := L[i].enc) (ys := L[i].enc) (r := true) (v := false) rfl rfl rfl rfl rfl (by decide) (by kernel_rfl) (by kernel_rfl) (by kernel_rfl) (enc_ok hki) (enc_ok hki) formedEv (by simp) (.inr ⟨rfl, rfl⟩) ?_
    repeat (first | refine Plan.move rfl rfl rfl rfl ?_ | (refine Plan.ints rfl rfl rfl rfl rfl rfl ?_; (refine Plan.int (i64r (by omega)) ?_)) | refine J.region mixed hI (by kernel_rfl) ?_ | refine J.condF rfl ?_ | refine J.skip ?_)
    refine Plan.int (y := ((i + 1 : Nat) : Int)) (by omega) ?_
    repeat (fail)
    exact Nrm.next (i + 1) (by omega) (by omega) (by repeat (first | exact Weak.nil | refine Weak.cons rfl (Sub.refl _) ?_))
  refine J.exit ?_
  repeat (first | refine Plan.assign rfl rfl rfl rfl ?_ | refine J.seq (J.region mixed hI (by kernel_rfl) ?_))
  exact J.ret (Nrm.ret1 rfl (fun _ h => h) rfl fun B _ => Sub.refl _)
end Go.Proofs.YtmljgobenlpnfaaGreat
end

section
namespace Go.Proofs.YtmljgobenlpnfaaGreat
open Go.Free Go.RowKit Go.Proofs
set_option maxHeartbeats 4000000
end Go.Proofs.YtmljgobenlpnfaaGreat
end

section
namespace Go.Free
open Go.RowKit
inductive Kn where
  | flat (k : Kd)
  | rows (l : List Kd)
def Kn.ok (w : World) : Kn → Value → Prop
  | .flat k, v => k.ok v
  | .rows l, v => ∃ A len cap, ∃ ls : List (List Value), v = .slice A len cap ∧ ls.length = len ∧ len ≤ 9223372036854775807 ∧ (∀ c ∈ ls, CellsOk l c) ∧ rowH l.length ls.flatten w v
def CellsIn (w : World) : List Kn → List Value → Prop
  | [], cs => cs = []
  | k :: r, cs => ∃ v r', cs = v :: r' ∧ k.ok w v ∧ CellsIn w r r'
theorem CellsIn.append {w : World} : ∀ {k1 k2 : List Kn} {c1 c2 : List Value}, CellsIn w k1 c1 → CellsIn w k2 c2 → CellsIn w (k1 ++ k2) (c1 ++ c2)
  | [], _, _, _, h1, h2 => by simp only [CellsIn] at h1; subst h1; exact h2
  | k :: r, k2, _, c2, ⟨v, r', h1, h3, h4⟩, h2 => by subst h1; exact ⟨v, r' ++ c2, rfl, h3, CellsIn.append h4 h2⟩
theorem CellsIn.length {w : World} : ∀ {k : List Kn} {c : List Value}, CellsIn w k c → c.length = k.length
  | [], _, h => by simp only [CellsIn] at h; subst h; rfl
  | k :: r, _, ⟨v, r', h1, _, h4⟩ => by subst h1; simp [CellsIn.length h4]
section
variable {H : Type} {enc : TypeId × Value → H} {P : Program} {w : World} {base : Nat} {spare : Nat → Bool} {held : Bool}
end
end Go.Free
end

section
namespace Go.Proofs.YtmljgobenlpnfaaGreat
open Go.Free Go.RowKit Go.Proofs
set_option maxHeartbeats 4000000
structure OpV8 where
  kind : Int
  n : Int
  at_ : Int
  turn : Int
  e : EvV
  s : List UInt8
  v : Value
  L : List EvV
def OpV8.enc (o : OpV8) : List Value := [vi o.kind, vi o.n, vi o.at_, vi o.turn] ++ o.e.enc ++ [str o.s, o.v]
def OpV8.okV (o : OpV8) : Prop := in64 o.kind ∧ in64 o.n ∧ in64 o.at_ ∧ in64 o.turn ∧ o.e.okV ∧ o.s.length ≤ 9223372036854775807 ∧ o.L.length ≤ 9223372036854775807 ∧ (∀ x ∈ o.L, x.okV) ∧ ∃ A c, o.v = .slice A o.L.length c
end Go.Proofs.YtmljgobenlpnfaaGreat
end

section
namespace Go.Proofs.YtmljgobenlpnfaaGreat
open Go.Free Go.RowKit Go.Proofs
set_option maxHeartbeats 2000000
def flips (l : List UInt8) (p m : Nat) : Nat → List UInt8
  | 0 => l
  | i + 1 => if m / 2 ^ (15 - i) % 2 = 1 then flipAt (flips l p m i) (p + i) else flips l p m i
theorem flips_length (l : List UInt8) (p m : Nat) : ∀ i, (flips l p m i).length = l.length
  | 0 => rfl
  | i + 1 => by unfold flips; split <;> simp [flip_length, flips_length l p m i]
def keptOf (n : Nat) (keep : Int) : Nat := (max 0 (min keep n)).toNat
def tailOf (t : List UInt8) (at_ turn : Int) : List UInt8 :=
  if 2 ≤ t.length then flips t (at_ % ((8 * t.length : Nat) - 15)).toNat (turn % 65536).toNat 16 else t
def crashOf (l : List UInt8) (f : Nat) (keep at_ turn : Int) : List UInt8 := l.take f ++ tailOf ((l.drop f).take (keptOf (l.length - f) keep)) at_ turn
theorem kept_eq (n : Nat) (keep : Int) : ((keptOf n keep : Nat) : Int) = if (if ((n : Nat) : Int) < keep then ((n : Nat) : Int) else keep) > 0 then (if ((n : Nat) : Int) < keep then ((n : Nat) : Int) else keep) else 0 := by
  unfold keptOf; split <;> split <;> omega
theorem kept_le (n : Nat) (keep : Int) : keptOf n keep ≤ n := by unfold keptOf; omega
theorem tail_length (t : List UInt8) (a b : Int) : (tailOf t a b).length = t.length := by unfold tailOf; split <;> simp [flips_length]
theorem and1i (x : Nat) (h : x < 65536) : IntKind.i64.wrap ((BitVec.ofInt IntKind.i64.bits (x : Int) &&& BitVec.ofInt IntKind.i64.bits 1).toNat : Int) = ((x % 2 : Nat) : Int) := by
  have e : (BitVec.ofInt IntKind.i64.bits (x : Int) &&& BitVec.ofInt IntKind.i64.bits 1).toNat = x % 2 := by
    show (BitVec.ofInt 64 (x : Int) &&& BitVec.ofInt 64 1).toNat = _
    rw [BitVec.toNat_and, BitVec.ofInt_natCast, BitVec.toNat_ofNat, Nat.mod_eq_of_lt (by omega)]
    exact Nat.and_one_is_mod x
  rw [e, i64r (by omega)]
theorem bit_natD (pos : Nat) : ((128 / 2 ^ (pos % 8) : Nat) : Int) = (bitAt pos).toNat := by
  have h : pos % 8 < 8 := Nat.mod_lt _ (by decide)
  have e : (bitAt pos).toNat = 128 / 2 ^ (pos % 8) := by
    unfold bitAt
    generalize pos % 8 = r at h
    have : r = 0 ∨ r = 1 ∨ r = 2 ∨ r = 3 ∨ r = 4 ∨ r = 5 ∨ r = 6 ∨ r = 7 := by omega
    rcases this with rfl | rfl | rfl | rfl | rfl | rfl | rfl | rfl <;> rfl
  rw [e]
def crashE (β g cap f kp r p m : Nat) (turn : Int) (A : Nat → Prop) (h t0 : List UInt8) (i : Nat) : Env :=
  [(0, .ex (ptr β)), (3, .ex (.int .i64 turn)), (9, .ex (.slice (some ⟨g, 0 + f * 1, none⟩) (f + kp - f) (cap - f))), (10, .ex (.int .i64 p)), (57, .ex (.int .i64 i)),
   (1000, heap A [obj β [.slice (some ⟨g, 0, none⟩) (f + kp) cap, .int .i64 f, .int .i64 r], rowC 5 1 (some ⟨g, 0, none⟩) (f + kp) cap (bs (h ++ flips t0 p m i))])]
theorem disk_Crash (β : Nat) (l : List UInt8) (f r : Nat) (keep at_ turn : Int) (hl : l.length ≤ 65536) (hf : f ≤ l.length)
    (hkeep : -9223372036854775808 ≤ keep ∧ keep ≤ 9223372036854775807) (hat : -9223372036854775808 ≤ at_ ∧ at_ ≤ 9223372036854775807) (hturn : -9223372036854775808 ≤ turn ∧ turn ≤ 9223372036854775807) :
    SpcC Tryz.prog 11 [.ex (ptr β), .ex (.int .i64 keep), .ex (.int .i64 at_), .ex (.int .i64 turn)] (diskC β l f r) (fun _ : Unit => True)
    (fun _ => Fa.any) (fun _ => diskC β (crashOf l f keep at_ turn) (crashOf l f keep at_ turn).length r) := by
  refine SpcC.intro Tryz.func11 rfl (Nat.le_of_ble_eq_true rfl) fun w0 F => ?_
  have hI := kept_below F w0
  have hA := Own.kept F w0
  refine J.exC (key := 1000) (q := 0) rfl rfl fun x => ?_
  refine J.sepC (key := 1000) (q := 0) rfl rfl ?_
  refine J.factC (key := 1000) (q := 1) rfl rfl (fun w F hh => row_fact hh) fun hfact => ?_
  obtain ⟨-, hcap, hcapM, hB⟩ := hfact
  obtain ⟨B, cap⟩ := x
  dsimp only at hcap hcapM hB
  dsimp only
  repeat (first | refine Plan.move rfl rfl rfl rfl ?_ | refine Plan.lenE rfl rfl rfl rfl Tryz.underlying56 ?_ | (refine Plan.ints rfl rfl rfl rfl rfl rfl ?_; (refine Plan.int (i64r (by omega)) ?_)) | refine Plan.nilOk rfl rfl rfl rfl ?_ | refine Plan.fieldC rfl rfl rfl rfl (by exact Tryz.underlying58) rfl (by kernel_rfl) (by first | exact (rfl : _ = 0) | exact (rfl : _ = 1)) ?_ | refine Plan.loadC (key := 1000) (q := 0) rfl rfl rfl rfl rfl rfl (obj_reads1 rfl) (by first | exact Tryz.underlying3 | exact Tryz.underlying56) (by rfl) (by decide) ?_ | refine Plan.eqlPtr rfl rfl rfl rfl (by kernel_rfl) ?_ | refine J.seq (J.region mixed hI (by kernel_rfl) ?_) | refine J.seq (J.seq (J.region mixed hI (by kernel_rfl) ?_)) | refine J.condF rfl ?_ | refine J.skip ?_)
  refine Plan.int (y := ((l.length - f : Nat) : Int)) (by omega) ?_
  refine Plan.min2 rfl rfl rfl rfl rfl ?_
  refine Plan.max2 rfl rfl rfl rfl rfl ?_
  rw [← kept_eq]
  obtain ⟨kp, hkp⟩ : ∃ kp, kp = keptOf (l.length - f) keep := ⟨_, rfl⟩
  have hkple : kp ≤ l.length - f := by rw [hkp]; exact kept_le _ _
  rw [← hkp]
  repeat (first | refine Plan.move rfl rfl rfl rfl ?_ | refine Plan.assign rfl rfl rfl rfl ?_ | (refine Plan.ints rfl rfl rfl rfl rfl rfl ?_; (refine Plan.int (i64r (by omega)) ?_)) | refine Plan.nilOk rfl rfl rfl rfl ?_ | refine Plan.fieldC rfl rfl rfl rfl (by exact Tryz.underlying58) rfl (by kernel_rfl) (by first | exact (rfl : _ = 0) | exact (rfl : _ = 1)) ?_ | refine Plan.loadC (key := 1000) (q := 0) rfl rfl rfl rfl rfl rfl (obj_reads1 rfl) (by first | exact Tryz.underlying3 | exact Tryz.underlying56) (by rfl) (by decide) ?_ | refine J.seq (J.region mixed hI (by kernel_rfl) ?_))
  refine Plan.int (y := ((f + kp : Nat) : Int)) (by omega) ?_
  refine Plan.sliceHi rfl rfl rfl rfl eltB rfl (by omega) ?_
  repeat (first | refine Plan.nilOk rfl rfl rfl rfl ?_ | refine Plan.fieldC rfl rfl rfl rfl (by exact Tryz.underlying58) rfl (by kernel_rfl) (by exact (rfl : _ = 0)) ?_)
  refine Plan.storeC (key := 1000) (q := 0) rfl rfl rfl rfl rfl rfl (by simp [Value.cells, Value.oneCell']) (by kernel_rfl) rfl hA rfl (obj_pat1 (Nat.le_of_ble_eq_true rfl)) ?_
  have hbt : List.take ((f + kp) * 1) (bs l) = bs (l.take f ++ (l.drop f).take kp) := by rw [← List.take_add, Nat.mul_one]; simp [bs, List.map_take]
  refine J.convC (key := 1000) (q := 1) rfl rfl (Ent.rowCut (m := f + kp) (by omega)) ?_
  rw [hbt]
  obtain ⟨t0, ht0⟩ : ∃ t0, t0 = (l.drop f).take kp := ⟨_, rfl⟩
  have ht0l : t0.length = kp := by rw [ht0, List.length_take, List.length_drop]; omega
  have hcr : crashOf l f keep at_ turn = l.take f ++ tailOf t0 at_ turn := by unfold crashOf; rw [← hkp, ← ht0]
  have hcrl : (crashOf l f keep at_ turn).length = f + kp := by rw [hcr, List.length_append, tail_length, ht0l, List.length_take]; omega
  have hclose : ∀ B : Option Addr, Ent (allC [obj β [.slice B (f + kp) cap, .int .i64 f, .int .i64 r], rowC 5 1 B (f + kp) cap (bs (l.take f ++ tailOf t0 at_ turn))]) (diskC β (crashOf l f keep at_ turn) f r) := by
    intro B
    have h9 := disk_close (l := crashOf l f keep at_ turn) (B := B) (cap := cap) (f := f) (r := r) (β := β)
    simp only [rowB, hcrl] at h9
    rw [hcr] at h9
    rw [hcr]
    exact h9
  rw [← ht0]
  repeat (first | refine Plan.move rfl rfl rfl rfl ?_ | refine Plan.nilOk rfl rfl rfl rfl ?_ | refine Plan.fieldC rfl rfl rfl rfl (by exact Tryz.underlying58) rfl (by kernel_rfl) (by first | exact (rfl : _ = 0) | exact (rfl : _ = 1)) ?_ | refine Plan.loadC (key := 1000) (q := 0) rfl rfl rfl rfl rfl rfl (obj_reads1 rfl) (by first | exact Tryz.underlying3 | exact Tryz.underlying56) (by rfl) (by decide) ?_ | refine J.seq (J.region mixed hI (by kernel_rfl) ?_))
  by_cases h2 : 2 ≤ kp
  · rcases hB with ⟨_, _, h0⟩ | ⟨g, rfl⟩
    · omega
    refine Plan.sliceLo rfl rfl rfl rfl eltB rfl (by omega) (by omega) (by omega) ?_
    repeat (first | refine Plan.move rfl rfl rfl rfl ?_ | refine Plan.assign rfl rfl rfl rfl ?_ | (refine Plan.ints rfl rfl rfl rfl rfl rfl ?_; (skip)) | refine J.seq (J.seq (J.region mixed hI (by kernel_rfl) ?_)))
    refine J.condD rfl (fun h3 => ?_) (fun h3 => ?_)
    rotate_left
    · omega
    · repeat (first | refine Plan.move rfl rfl rfl rfl ?_ | (refine Plan.ints rfl rfl rfl rfl rfl rfl ?_; (refine Plan.int (i64r (by omega)) ?_)) | refine J.seq (J.region mixed hI (by kernel_rfl) ?_))
      refine Plan.call (B := 0) rfl rfl rfl (disk_rest at_ (8 * (kp : Int) - 15) (by omega)) Tryz.func36 rfl rfl (fun _ _ => Nat.zero_le _) (by repeat (first | exact Opnds.nil | refine Opnds.cons rfl (by exact Sub.refl _) ?_)) ?_
      obtain ⟨p, hp⟩ : ∃ p : Nat, (p : Int) = at_ % (8 * (kp : Int) - 15) := ⟨(at_ % (8 * (kp : Int) - 15)).toNat, Int.toNat_of_nonneg (Int.emod_nonneg _ (by omega))⟩
      have hpl : p < 8 * kp - 15 := by
        have := Int.emod_lt_of_pos at_ (show (0 : Int) < 8 * (kp : Int) - 15 by omega)
        omega
      rw [← hp]
      obtain ⟨m, hm⟩ : ∃ m : Nat, (m : Int) = turn % 65536 := ⟨(turn % 65536).toNat, Int.toNat_of_nonneg (Int.emod_nonneg _ (by omega))⟩
      have hml : m < 65536 := by
        have := Int.emod_lt_of_pos turn (show (0 : Int) < 65536 by omega)
        omega
      have htail : tailOf t0 at_ turn = flips t0 p m 16 := by
        unfold tailOf
        rw [ht0l, if_pos h2, show ((8 * kp : Nat) : Int) - 15 = 8 * (kp : Int) - 15 by omega, ← hp, ← hm]
        rfl
      repeat (first | refine Plan.move rfl rfl rfl rfl ?_ | refine Plan.assign rfl rfl rfl rfl ?_ | refine J.seq (J.region mixed hI (by kernel_rfl) ?_))
      refine J.block (J.loop (crashE β g cap f kp r p m turn (fun b => F b ∨ w0.heap.size ≤ b) (l.take f) t0) (fun i => i ≤ 16) (fun i => 16 - i) 0 (Nat.zero_le _) ?_ ?_)
      · repeat (first | exact Weak.nil | refine Weak.cons rfl (Sub.refl _) ?_)
      intro i hi
      have hfl := flips_length t0 p m i
      repeat (first | (refine Plan.ints rfl rfl rfl rfl rfl rfl ?_; (skip)) | refine J.seq (J.region mixed hI (by kernel_rfl) ?_))
      refine J.seq (J.condD rfl (fun hlt => ?_) (fun hlt => ?_))
      · have hlt' : i < 16 := by omega
        repeat (refine J.skip ?_)
        refine J.seq (J.block ?_)
        repeat (first | refine Plan.move rfl rfl rfl rfl ?_ | refine Plan.assign rfl rfl rfl rfl ?_ | refine J.seq (J.region mixed hI (by kernel_rfl) ?_))
        refine Plan.call (B := 0) rfl rfl rfl (disk_rest turn 65536 (by omega)) Tryz.func36 rfl rfl (fun _ _ => Nat.zero_le _) (by repeat (first | exact Opnds.nil | refine Opnds.cons rfl (by exact Sub.refl _) ?_)) ?_
        rw [← hm]
        repeat (first | refine Plan.move rfl rfl rfl rfl ?_ | (refine Plan.ints rfl rfl rfl rfl rfl rfl ?_; (refine Plan.int (i64r (by omega)) ?_)))
        refine Plan.int (y := ((15 - i : Nat) : Int)) (by omega) ?_
        refine Plan.shrN rfl rfl rfl rfl rfl (by show 15 - i ≤ 64; omega) ?_
        refine Plan.ints rfl rfl rfl rfl rfl rfl ?_
        refine Plan.int (and1i _ (Nat.lt_of_le_of_lt (Nat.div_le_self _ _) hml)) ?_
        repeat ((refine Plan.ints rfl rfl rfl rfl rfl rfl ?_; (skip)))
        refine J.condE rfl (fun hbit => ?_) (fun hbit => ?_)
        · have hbit' : m / 2 ^ (15 - i) % 2 = 1 := by omega
          have hq8 : (p + i) / 8 < (flips t0 p m i).length := by omega
          have hget : (bs (l.take f ++ flips t0 p m i))[0 + f * 1 + (p + i) / 8 * 1]? = some (.int .u8 ((flips t0 p m i).getD ((p + i) / 8) 0).toNat) := by
            have hlf : (l.take f).length = f := by rw [List.length_take]; omega
            rw [show 0 + f * 1 + (p + i) / 8 * 1 = f + (p + i) / 8 by omega]
            simp only [bs, List.map_append]
            rw [List.getElem?_append_right (by rw [List.length_map, hlf]; omega), List.length_map, hlf, Nat.add_sub_cancel_left, List.getElem?_map, List.getElem?_eq_getElem hq8, List.getD_eq_getElem?_getD, List.getElem?_eq_getElem hq8]
            rfl
          refine (J.region mixed hI (by kernel_rfl) ?_)
          refine Plan.move rfl rfl rfl rfl ?_
          refine Plan.move rfl rfl rfl rfl ?_
          refine Plan.move rfl rfl rfl rfl ?_
          refine Plan.ints rfl rfl rfl rfl rfl rfl ?_
          refine Plan.int (y := ((p + i : Nat) : Int)) (by rw [i64r (by omega)]; omega) ?_
          refine Plan.ints rfl rfl rfl rfl rfl rfl ?_
          refine Plan.int (y := (((p + i) / 8 : Nat) : Int)) (quoN (y := 8) (by omega)) ?_
          refine Plan.indexC rfl rfl rfl rfl rfl eltB (by omega) rfl ?_
          refine Plan.loadC (key := 1000) (q := 1) rfl rfl rfl rfl rfl rfl (row_reads1 hget) Tryz.underlying5 rfl (by decide) ?_
          refine Plan.move rfl rfl rfl rfl ?_
          refine Plan.move rfl rfl rfl rfl ?_
          refine Plan.ints rfl rfl rfl rfl rfl rfl ?_
          refine Plan.int (y := ((p + i : Nat) : Int)) (by rw [i64r (by omega)]; omega) ?_
          refine Plan.ints rfl rfl rfl rfl rfl rfl ?_
          refine Plan.int (y := (((p + i) % 8 : Nat) : Int)) (remN _ 8) ?_
          refine Plan.shrN (p := 128) (q := (p + i) % 8) rfl rfl rfl rfl rfl (by show (p + i) % 8 ≤ 8; omega) ?_
          refine Plan.int (bit_natD (p + i)) ?_
          refine Plan.ints rfl rfl rfl rfl rfl rfl ?_
          refine Plan.int (u8_xor _ _) ?_
          refine Plan.indexC rfl rfl rfl rfl rfl eltB (by omega) rfl ?_
          refine Plan.storeC (key := 1000) (q := 1) rfl rfl rfl rfl rfl rfl (by simp [Value.cells, Value.oneCell']) (by kernel_rfl) rfl hA rfl (row_pat1 (List.getElem?_eq_some_iff.1 hget).1) ?_
          have hset : (bs (l.take f ++ flips t0 p m i)).set (0 + f * 1 + (p + i) / 8 * 1) (.int .u8 ((flips t0 p m i).getD ((p + i) / 8) 0 ^^^ bitAt (p + i)).toNat) = bs (l.take f ++ flips t0 p m (i + 1)) := by
            have hlf : (l.take f).length = f := by rw [List.length_take]; omega
            rw [bsSet, show 0 + f * 1 + (p + i) / 8 * 1 = f + (p + i) / 8 by omega]
            rw [List.set_append_right _ _ (by omega), hlf, Nat.add_sub_cancel_left]
            simp only [flips, if_pos hbit']
            rfl
          rw [hset]
          repeat (first | refine Plan.move rfl rfl rfl rfl ?_ | (refine Plan.ints rfl rfl rfl rfl rfl rfl ?_; (refine Plan.int (i64r (by omega)) ?_)) | refine J.region mixed hI (by kernel_rfl) ?_)
          refine Nrm.next (i + 1) hlt' (by omega) (by repeat (first | exact Weak.nil | refine Weak.cons rfl (Sub.refl _) ?_))
        · have hbit' : ¬ m / 2 ^ (15 - i) % 2 = 1 := by omega
          have hset : flips t0 p m i = flips t0 p m (i + 1) := by simp only [flips, if_neg hbit']
          refine J.convC (key := 1000) (q := 1) rfl rfl (Ent.rowEq (congrArg (fun t => bs (l.take f ++ t)) hset)) ?_
          repeat (first | refine Plan.move rfl rfl rfl rfl ?_ | (refine Plan.ints rfl rfl rfl rfl rfl rfl ?_; (refine Plan.int (i64r (by omega)) ?_)) | refine J.region mixed hI (by kernel_rfl) ?_ | refine J.skip ?_)
          refine Nrm.next (i + 1) hlt' (by omega) (by repeat (first | exact Weak.nil | refine Weak.cons rfl (Sub.refl _) ?_))
      · have hi16 : i = 16 := by omega
        subst hi16
        refine J.exit ?_
        have hcl := hclose (some ⟨g, 0, none⟩)
        rw [htail] at hcl
        repeat (first | refine Plan.move rfl rfl rfl rfl ?_ | refine J.region mixed hI (by kernel_rfl) ?_)
        refine Plan.regroup [diskC β (crashOf l f keep at_ turn) f r] (by kernel_rfl) hI (key := 1000) rfl (hcl.trans Ent.addEmp) ?_
        refine Plan.callC (key := 1000) (q := 0) rfl rfl rfl (disk_Sync β (crashOf l f keep at_ turn) f r) Tryz.func35 rfl rfl (by intro _ e; cases e; decide) (by repeat (first | exact Opnds.nil | refine Opnds.cons rfl (by exact Sub.refl _) ?_)) rfl hA rfl ?_
        intro _ _
        exact Nrm.retC0 (key := 1000) () rfl rfl rfl trivial Ent.one (.inl rfl)
  · have htail : tailOf t0 at_ turn = t0 := by unfold tailOf; rw [ht0l, if_neg h2]
    refine Plan.sliceAny rfl rfl rfl rfl eltB rfl (by omega) ?_
    repeat (first | refine Plan.move rfl rfl rfl rfl ?_ | refine Plan.assign rfl rfl rfl rfl ?_ | (refine Plan.ints rfl rfl rfl rfl rfl rfl ?_; (skip)) | refine J.seq (J.seq (J.region mixed hI (by kernel_rfl) ?_)))
    refine J.condD rfl (fun h3 => ?_) (fun h3 => ?_)
    · omega
    rw [← htail]
    repeat (first | refine Plan.move rfl rfl rfl rfl ?_ | refine J.region mixed hI (by kernel_rfl) ?_ | refine J.skip ?_)
    refine Plan.regroup [diskC β (crashOf l f keep at_ turn) f r] (by kernel_rfl) hI (key := 1000) rfl ((hclose _).trans Ent.addEmp) ?_
    refine Plan.callC (key := 1000) (q := 0) rfl rfl rfl (disk_Sync β (crashOf l f keep at_ turn) f r) Tryz.func35 rfl rfl (by intro _ e; cases e; decide) (by repeat (first | exact Opnds.nil | refine Opnds.cons rfl (by exact Sub.refl _) ?_)) rfl hA rfl ?_
    intro _ _
    exact Nrm.retC0 (key := 1000) () rfl rfl rfl trivial Ent.one (.inl rfl)
end Go.Proofs.YtmljgobenlpnfaaGreat
end

section
namespace Go.Proofs.YtmljgobenlpnfaaGreat
open Go.Free Go.RowKit Go.Proofs
def evBod (e : EvV) : List UInt8 := 0 :: encB e
def bodOf (m : LogV) : List (List UInt8) := (if m.b = true then [1 :: m.s] else []) ++ m.l.map evBod
def reL (L : List EvV) : List EvV := L.map fun e => decR (encB e)
theorem evs_re {L : List EvV} (h : ∀ e ∈ L, rightP e) : evsC (reL L) = evsC L := by
  induction L with
  | nil => rfl
  | cons e r ih =>
    have h1 := (dec_back (h e List.mem_cons_self)).2
    have h2 := ih fun x hx => h x (List.mem_cons_of_mem _ hx)
    simp only [reL, List.map_cons, evsC, List.flatMap_cons] at h2 ⊢
    rw [h1, h2]
theorem take_ev {m : LogV} {f : Bool} {e : EvV} (h : rightP e) : takeM m (evBod e) f = some ⟨m.s, m.b, m.l ++ [decR (encB e)]⟩ := by
  unfold takeM evBod
  simp [(dec_back h).1]
theorem takes_evs : ∀ (L : List EvV) (f : Bool) (m : LogV) (p : Nat), (∀ e ∈ L, rightP e) → takesM (L.map evBod) f m p = (⟨m.s, m.b, m.l ++ reL L⟩, p + (frames (L.map evBod)).length)
  | [], f, m, p, _ => by simp [takesM, reL, frames]
  | e :: r, f, m, p, h => by
    have h1 : takeM m (evBod e) f = some ⟨m.s, m.b, m.l ++ [decR (encB e)]⟩ := take_ev (h e List.mem_cons_self)
    rw [List.map_cons, takes_some h1, takes_evs r false _ _ fun x hx => h x (List.mem_cons_of_mem _ hx), frames_cons, List.length_append, fPut_length]
    simp only [reL, List.map_cons, List.append_assoc, List.cons_append, List.nil_append, Prod.mk.injEq, true_and]
    omega
theorem bod_le {m : LogV} (hs : m.s.length ≤ 65528) (hr : ∀ e ∈ m.l, rightP e) : ∀ x ∈ bodOf m, x.length ≤ 65529 := fun x hx => by
  unfold bodOf at hx
  rcases List.mem_append.1 hx with hx | hx
  · split at hx
    · rw [List.mem_singleton.1 hx, List.length_cons]; omega
    · cases hx
  · obtain ⟨e, he, rfl⟩ := List.mem_map.1 hx
    have := encB_le (hr e he)
    unfold evBod; rw [List.length_cons]; omega
theorem takes_bod (m : LogV) (j : Nat) (hm : m.b = false → m.s = []) (hj : (if m.b = true then 1 else 0) ≤ j) (hr : ∀ e ∈ m.l, rightP e) :
    takesM ((bodOf m).take j) true log0 0 = (⟨m.s, m.b, reL (m.l.take (j - (if m.b = true then 1 else 0)))⟩, (frames ((bodOf m).take j)).length) := by
  obtain ⟨s, b, L⟩ := m
  dsimp only at *
  have hr' : ∀ k, ∀ e ∈ L.take k, rightP e := fun k e he => hr e (List.mem_of_mem_take he)
  cases b with
  | true =>
    simp only [if_true] at hj ⊢
    obtain ⟨i, rfl⟩ : ∃ i, j = i + 1 := ⟨j - 1, by omega⟩
    have e1 : (bodOf ⟨s, true, L⟩).take (i + 1) = (1 :: s) :: (L.take i).map evBod := by unfold bodOf; simp
    have h1 : takeM log0 (1 :: s) true = some ⟨s, true, []⟩ := rfl
    rw [e1, takes_some h1, takes_evs _ _ _ _ (hr' i), Nat.add_sub_cancel, frames_cons, List.length_append, fPut_length]
    simp only [List.nil_append, Prod.mk.injEq, true_and]
    omega
  | false =>
    have e1 : (bodOf ⟨s, false, L⟩).take j = (L.take j).map evBod := by unfold bodOf; simp
    obtain rfl := hm rfl
    rw [e1, takes_evs _ _ _ _ (hr' j)]
    simp [log0]
end Go.Proofs.YtmljgobenlpnfaaGreat
end

section
namespace Go.Proofs.YtmljgobenlpnfaaGreat
open Go.Free Go.RowKit Go.Proofs
def burst (l : List UInt8) (p : Nat) (sel : Nat → Bool) : Nat → List UInt8
  | 0 => l
  | i + 1 => if sel i then flipAt (burst l p sel i) (p + i) else burst l p sel i
theorem burst_length (l : List UInt8) (p : Nat) (sel : Nat → Bool) : ∀ i, (burst l p sel i).length = l.length
  | 0 => rfl
  | i + 1 => by
    unfold burst
    split
    · rw [flip_length, burst_length l p sel i]
    · exact burst_length l p sel i
theorem flip_far {l : List UInt8} {p : Nat} (h : 8 * l.length ≤ p) : flipAt l p = l := by
  unfold flipAt
  rw [List.set_eq_of_length_le (by omega)]
theorem burst_far {l : List UInt8} {p : Nat} (sel : Nat → Bool) (h : 8 * l.length ≤ p) : ∀ i, burst l p sel i = l
  | 0 => rfl
  | i + 1 => by
    unfold burst
    rw [burst_far sel h i]
    split
    · exact flip_far (by omega)
    · rfl
theorem flip_take (l : List UInt8) (p n : Nat) : (flipAt l p).take n = flipAt (l.take n) p := by
  unfold flipAt
  rw [List.take_set]
  by_cases h : p / 8 < n
  · congr 2
    simp only [List.getD_eq_getElem?_getD, List.getElem?_take, if_pos h]
  · rw [List.set_eq_of_length_le (by rw [List.length_take]; omega), List.set_eq_of_length_le (by rw [List.length_take]; omega)]
theorem burst_take (l : List UInt8) (p : Nat) (sel : Nat → Bool) (n : Nat) : ∀ i, (burst l p sel i).take n = burst (l.take n) p sel i
  | 0 => rfl
  | i + 1 => by
    unfold burst
    split
    · rw [flip_take, burst_take l p sel n i]
    · exact burst_take l p sel n i
theorem flip_drop (l : List UInt8) {p n : Nat} (h : 8 * n ≤ p) : (flipAt l p).drop n = flipAt (l.drop n) (p - 8 * n) := by
  unfold flipAt
  have e1 : (p - 8 * n) / 8 = p / 8 - n := by omega
  have e2 : bitAt (p - 8 * n) = bitAt p := by unfold bitAt; rw [show (p - 8 * n) % 8 = p % 8 by omega]
  rw [List.drop_set, if_neg (by omega), e1, e2]
  congr 2
  simp only [List.getD_eq_getElem?_getD, List.getElem?_drop]
  rw [show n + (p / 8 - n) = p / 8 by omega]
theorem burst_drop (l : List UInt8) {p n : Nat} (sel : Nat → Bool) (h : 8 * n ≤ p) : ∀ i, (burst l p sel i).drop n = burst (l.drop n) (p - 8 * n) sel i
  | 0 => rfl
  | i + 1 => by
    unfold burst
    split
    · rw [flip_drop _ (by omega), burst_drop l sel h i, show p + i - 8 * n = p - 8 * n + i by omega]
    · exact burst_drop l sel h i
theorem burst_skip (l : List UInt8) (p j : Nat) (sel : Nat → Bool) (h : ∀ i, i < j → sel i = false) : ∀ i, burst l p sel (j + i) = burst l (p + j) (fun q => sel (j + q)) i
  | 0 => by
    have : ∀ k, k ≤ j → burst l p sel k = l := by
      intro k
      induction k with
      | zero => intro _; rfl
      | succ k ih => intro hk; unfold burst; rw [h k (by omega), if_neg (by simp)]; exact ih (by omega)
    exact this j (Nat.le_refl _)
  | i + 1 => by
    rw [show j + (i + 1) = (j + i) + 1 by omega]
    unfold burst
    rw [burst_skip l p j sel h i, show p + (j + i) = p + j + i by omega]
def topS (sel : Nat → Bool) : Nat → BitVec 16
  | 0 => 0#16
  | i + 1 => if sel i then topS sel i ^^^ crcSteps (15 - i) 1#16 else topS sel i
theorem topS_high (sel : Nat → Bool) (h : sel 0 = true) : ∀ i, i < 16 → (topS sel (i + 1)).getLsbD 15 = true
  | 0, _ => by
    simp only [topS, h, if_true, BitVec.zero_xor]
    rw [steps_one _ (by omega), BitVec.getLsbD_twoPow]; rfl
  | i + 1, hi => by
    have ih := topS_high sel h i (by omega)
    rw [topS]
    split
    · rw [BitVec.getLsbD_xor, ih, steps_one _ (by omega), BitVec.getLsbD_twoPow]
      have : (decide (15 - (i + 1) < 16) && decide (15 - (i + 1) = 15)) = false := by
        have : ¬ (15 - (i + 1) = 15) := by omega
        rw [decide_eq_false this, Bool.and_false]
      rw [this]; rfl
    · exact ih
theorem crc_burst (l : List UInt8) (p : Nat) (sel : Nat → Bool) (hp : p < 8 * l.length) : ∀ i, i ≤ 16 → crcOf (burst l p sel i) = crcOf l ^^^ crcSteps (8 * l.length - p) (topS (fun j => sel j && decide (p + j < 8 * l.length)) i)
  | 0, _ => by simp only [burst, topS, steps_of_zero, BitVec.xor_zero]
  | i + 1, hi => by
    have ih := crc_burst l p sel hp i (by omega)
    unfold burst topS
    by_cases hs : sel i = true
    · by_cases hr : p + i < 8 * l.length
      · rw [if_pos hs, if_pos (by simp [hs, hr])]
        unfold crcOf at ih ⊢
        rw [from_flip _ _ _ (by rw [burst_length]; exact hr), ih, burst_length, steps_xor, ← steps_add, BitVec.xor_assoc]
        congr 3
        omega
      · rw [if_pos hs, if_neg (by simp [hr]), flip_far (by rw [burst_length]; omega)]
        exact ih
    · rw [if_neg hs, if_neg (by simp [hs])]
      exact ih
theorem burst_fits (x : List UInt8) (p : Nat) (sel : Nat → Bool) (hs : sel 0 = true) (i : Nat) (hi : i < 16) (hp : p < 8 * (crcSeal x).length) : fits (burst (crcSeal x) p sel (i + 1)) = false := by
  have hl : (crcSeal x).length = x.length + 2 := seal_length x
  have h0 : crcOf (crcSeal x) = 0#16 := (fits_zero _ (by omega)).1 (by rw [fits_seal]; rfl)
  have hc := crc_burst (crcSeal x) p sel hp (i + 1) (by omega)
  rw [h0, BitVec.zero_xor] at hc
  cases hf : fits (burst (crcSeal x) p sel (i + 1)) with
  | false => rfl
  | true =>
    have hz := (fits_zero _ (by rw [burst_length]; omega)).1 hf
    rw [hc] at hz
    have h1 := steps_zero _ hz
    have h2 := topS_high (fun j => sel j && decide (p + j < 8 * (crcSeal x).length)) (by simp [hs, hp]) i hi
    rw [h1] at h2
    simp at h2
theorem fTake0_turned (x r : List UInt8) (h : x.length ≤ 65529) (p : Nat) (sel : Nat → Bool) (hs : sel 0 = true) (i : Nat) (hi : i < 16) (hp : p < 8 * (fPut x).length) : (fTake0 (burst (fPut x ++ r) p sel (i + 1))).2.2 ≠ 0 := by
  rw [fPut_length] at hp
  have hll : (burst (fPut x ++ r) p sel (i + 1)).length = x.length + 6 + r.length := by rw [burst_length, List.length_append, fPut_length]
  have hh : (crcSeal (hdr x.length)).length = 4 := by rw [seal_length]; rfl
  have e4 : (fPut x ++ r).take 4 = crcSeal (hdr x.length) := by
    rw [List.take_append_of_le_length (by rw [fPut_length]; omega)]
    unfold fPut; rw [List.take_left' hh]
  have hb4 : (burst (fPut x ++ r) p sel (i + 1)).take 4 = burst (crcSeal (hdr x.length)) p sel (i + 1) := by rw [burst_take, e4]
  unfold fTake0
  rw [hll, if_neg (by omega), hb4]
  by_cases h32 : p < 32
  · rw [if_pos (burst_fits _ p sel hs i hi (by rw [hh]; omega))]; decide
  · rw [burst_far sel (by rw [hh]; omega)]
    unfold opened fits
    rw [fits_seal]
    simp only [Option.getD_some, Option.isSome_some]
    rw [hlen_hdr h, if_neg (by decide), if_neg (by omega), if_neg (by omega)]
    have eb : ((burst (fPut x ++ r) p sel (i + 1)).take (x.length + 6)).drop 4 = burst (crcSeal x) (p - 32) sel (i + 1) := by
      rw [burst_take, burst_drop _ sel (by omega)]
      congr 1
      rw [List.take_append_of_le_length (by rw [fPut_length]; omega), List.take_of_length_le (by rw [fPut_length]; omega)]
      unfold fPut; rw [List.drop_left' hh]
    rw [eb]
    have := burst_fits x (p - 32) sel hs i hi (by rw [seal_length]; omega)
    unfold fits at this
    rw [if_pos this]; decide
end Go.Proofs.YtmljgobenlpnfaaGreat
end

section
namespace Go.Proofs.YtmljgobenlpnfaaGreat
open Go.Free Go.RowKit Go.Proofs
theorem take0_cutTurned (x r : List UInt8) (h : x.length ≤ 65529) (p : Nat) (sel : Nat → Bool) (hs : sel 0 = true) (i : Nat) (hi : i < 16) (j : Nat) (hp : p < 8 * (fPut x).length) (hpj : p < 8 * j) :
    (fTake0 ((burst (fPut x ++ r) p sel (i + 1)).take j)).2.2 ≠ 0 := by
  by_cases hj : (fPut x).length ≤ j
  · rw [burst_take, List.take_append, List.take_of_length_le hj]
    exact fTake0_turned x _ h p sel hs i hi hp
  · have hfl := fPut_length x
    have hll : ((burst (fPut x ++ r) p sel (i + 1)).take j).length = j := by rw [List.length_take, burst_length, List.length_append]; omega
    have hh : (crcSeal (hdr x.length)).length = 4 := by rw [seal_length]; rfl
    have e4 : (fPut x ++ r).take 4 = crcSeal (hdr x.length) := by
      rw [List.take_append_of_le_length (by rw [fPut_length]; omega)]
      unfold fPut; rw [List.take_left' hh]
    unfold fTake0
    rw [hll]
    by_cases h4 : j < 4
    · rw [if_pos h4]; decide
    rw [if_neg h4]
    have hb4 : ((burst (fPut x ++ r) p sel (i + 1)).take j).take 4 = burst (crcSeal (hdr x.length)) p sel (i + 1) := by rw [List.take_take, Nat.min_eq_left (by omega), burst_take, e4]
    rw [hb4]
    by_cases h32 : p < 32
    · rw [if_pos (burst_fits _ p sel hs i hi (by rw [hh]; omega))]; decide
    · rw [burst_far sel (by rw [hh]; omega)]
      unfold opened fits
      rw [fits_seal]
      simp only [Option.getD_some, Option.isSome_some]
      rw [hlen_hdr h, if_neg (by decide), if_neg (by omega), if_pos (by omega)]
      decide
theorem burst_none (l : List UInt8) (p : Nat) (sel : Nat → Bool) : ∀ i, (∀ j, j < i → sel j = false) → burst l p sel i = l
  | 0, _ => rfl
  | i + 1, h => by
    show (if sel i then _ else _) = l
    rw [h i (Nat.lt_succ_self i)]
    exact burst_none l p sel i fun j hj => h j (by omega)
theorem first_sel (sel : Nat → Bool) : ∀ n, (∀ j, j < n → sel j = false) ∨ ∃ j, j < n ∧ sel j = true ∧ ∀ i, i < j → sel i = false
  | 0 => .inl fun j hj => by omega
  | n + 1 => by
    rcases first_sel sel n with h | ⟨j, h1, h2, h3⟩
    · cases hn : sel n with
      | false =>
        refine .inl fun j hj => ?_
        rcases Nat.lt_or_ge j n with h' | h'
        · exact h j h'
        · have : j = n := by omega
          rw [this]; exact hn
      | true => exact .inr ⟨n, Nat.lt_succ_self n, hn, h⟩
    · exact .inr ⟨j, by omega, h2, h3⟩
theorem cut_laid (ls : List (List UInt8)) (h : ∀ x ∈ ls, x.length ≤ 65529) (k : Nat) : ∃ m r, m ≤ ls.length ∧ (frames ls).take k = frames (ls.take m) ++ r ∧ (fTake0 r).2.2 ≠ 0 := by
  rcases Nat.lt_or_ge k (frames ls).length with hlt | hge
  · obtain ⟨m, j, h1, h2, h3, h4⟩ := cut_at ls k hlt
    have hm : (ls.getD m []).length ≤ 65529 := by
      rw [List.getD_eq_getElem?_getD, List.getElem?_eq_getElem h1]; exact h _ (List.getElem_mem h1)
    exact ⟨m, _, by omega, h4, fTake0_cut _ hm j h2⟩
  · exact ⟨ls.length, [], Nat.le_refl _, by rw [List.take_length, List.take_of_length_le hge, List.append_nil], fTake0_nil⟩
theorem turned_laid (ls : List (List UInt8)) (h : ∀ x ∈ ls, x.length ≤ 65529) (p : Nat) (sel : Nat → Bool) (k : Nat) (hk : k ≤ (frames ls).length) :
    ∃ m r, m ≤ ls.length ∧ (burst (frames ls) p sel 16).take k = frames (ls.take m) ++ r ∧ (fTake0 r).2.2 ≠ 0 := by
  rcases first_sel sel 16 with hno | ⟨j, hj, hsj, hbe⟩
  · rw [burst_none _ _ _ 16 hno]
    exact cut_laid ls h k
  obtain ⟨i, hi⟩ : ∃ i, 16 = j + (i + 1) := ⟨15 - j, by omega⟩
  rw [hi, burst_skip _ _ _ _ hbe]
  generalize hs' : (fun q => sel (j + q)) = s'
  have hs0 : s' 0 = true := by rw [← hs']; exact hsj
  generalize p + j = q
  by_cases hq : 8 * k ≤ q
  · rw [burst_take, burst_far s' (by rw [List.length_take]; omega)]
    exact cut_laid ls h k
  · obtain ⟨m, jj, h1, h2, h3, _⟩ := cut_at ls (q / 8) (by omega)
    rw [fPut_length] at h2
    have hx : (ls.getD m []).length ≤ 65529 := by
      rw [List.getD_eq_getElem?_getD, List.getElem?_eq_getElem h1]; exact h _ (List.getElem_mem h1)
    have hsp : frames ls = frames (ls.take m) ++ (fPut (ls.getD m []) ++ frames (ls.drop (m + 1))) := by
      conv => lhs; rw [← List.take_append_drop m ls, List.drop_eq_getElem_cons h1]
      rw [frames_append, frames_cons, List.getD_eq_getElem?_getD, List.getElem?_eq_getElem h1]; rfl
    obtain ⟨n, hn⟩ : ∃ n, n = (frames (ls.take m)).length := ⟨_, rfl⟩
    have ht : (burst (frames ls) q s' (i + 1)).take n = frames (ls.take m) := by
      rw [burst_take, burst_far s' (by rw [List.length_take]; omega), hsp, hn, List.take_left]
    have hd : (burst (frames ls) q s' (i + 1)).drop n = burst (fPut (ls.getD m []) ++ frames (ls.drop (m + 1))) (q - 8 * n) s' (i + 1) := by
      rw [burst_drop _ s' (by omega), hsp, hn, List.drop_left]
    have hr := take0_cutTurned (ls.getD m []) (frames (ls.drop (m + 1))) hx (q - 8 * n) s' hs0 i (by omega) (k - n) (by rw [fPut_length]; omega) (by omega)
    refine ⟨m, _, by omega, ?_, hr⟩
    rw [← hd]
    conv => lhs; rw [← List.take_append_drop n (burst (frames ls) q s' (i + 1)), ht]
    rw [List.take_append, List.take_of_length_le (by omega), hn]
theorem flips_burst (l : List UInt8) (p m : Nat) : ∀ i, flips l p m i = burst l p (fun j => decide (m / 2 ^ (15 - j) % 2 = 1)) i
  | 0 => rfl
  | i + 1 => by
    unfold flips burst
    rw [flips_burst l p m i]
    by_cases h : m / 2 ^ (15 - i) % 2 = 1
    · rw [if_pos h, if_pos (decide_eq_true h)]
    · rw [if_neg h, if_neg (by rw [decide_eq_false h]; decide)]
theorem tail_burst (l : List UInt8) (k : Nat) (a t : Int) : ∃ p sel, tailOf (l.take k) a t = (burst l p sel 16).take k := by
  unfold tailOf
  split
  · rw [flips_burst, ← burst_take]
    exact ⟨_, _, rfl⟩
  · exact ⟨0, fun _ => false, by rw [burst_none _ _ _ 16 fun _ _ => rfl]⟩
theorem crash_laid (bs : List (List UInt8)) (h : ∀ x ∈ bs, x.length ≤ 65529) (c : Nat) (hc : c ≤ bs.length) (k a t : Int) :
    ∃ j r, c ≤ j ∧ j ≤ bs.length ∧ crashOf (frames bs) (frames (bs.take c)).length k a t = frames (bs.take j) ++ r ∧ (fTake0 r).2.2 ≠ 0 := by
  have hsp : frames bs = frames (bs.take c) ++ frames (bs.drop c) := by rw [← frames_append, List.take_append_drop]
  obtain ⟨kp, hkp⟩ : ∃ kp, kp = keptOf ((frames bs).length - (frames (bs.take c)).length) k := ⟨_, rfl⟩
  have hkl : kp ≤ (frames (bs.drop c)).length := by
    have := kept_le ((frames bs).length - (frames (bs.take c)).length) k
    have := congrArg List.length hsp
    rw [List.length_append] at this
    omega
  unfold crashOf
  rw [← hkp]
  have h1 : (frames bs).take (frames (bs.take c)).length = frames (bs.take c) := by rw [hsp, List.take_left]
  have h2 : (frames bs).drop (frames (bs.take c)).length = frames (bs.drop c) := by rw [hsp, List.drop_left]
  rw [h1, h2]
  obtain ⟨p, sel, hb⟩ := tail_burst (frames (bs.drop c)) kp a t
  rw [hb]
  obtain ⟨m, r, m1, m2, m3⟩ := turned_laid (bs.drop c) (fun x hx => h x (List.mem_of_mem_drop hx)) p sel kp hkl
  rw [List.length_drop] at m1
  refine ⟨c + m, r, by omega, by omega, ?_, m3⟩
  rw [m2, ← List.append_assoc, ← frames_append, List.take_add]
structure LaidA (m : LogV) (fl : Nat) (l : List UInt8) (df : Nat) : Prop where
  bytes : l = frames (bodOf m)
  few : fl ≤ m.l.length
  fast : df = (frames ((bodOf m).take ((if m.b = true then 1 else 0) + fl))).length
  none : m.b = false → m.s = []
  short : m.s.length ≤ 65528
  right : ∀ e ∈ m.l, rightP e
theorem bod_len (m : LogV) : (bodOf m).length = (if m.b = true then 1 else 0) + m.l.length := by unfold bodOf; split <;> simp [Nat.add_comm]
theorem bod_snoc (m : LogV) (e : EvV) : bodOf ⟨m.s, m.b, m.l ++ [e]⟩ = bodOf m ++ [evBod e] := by unfold bodOf; simp
theorem bod_take (m : LogV) (j : Nat) : (bodOf m).take ((if m.b = true then 1 else 0) + j) = bodOf ⟨m.s, m.b, m.l.take j⟩ := by
  unfold bodOf
  cases m.b with
  | true => simp [Nat.add_comm 1 j]
  | false => simp
theorem frames_snoc (bs : List (List UInt8)) (e : EvV) : frames (bs ++ [evBod e]) = frames bs ++ evF e := by
  rw [frames_append, frames_cons]; simp [frames, evF, evBod]
theorem laid0 : LaidA log0 0 [] 0 := ⟨rfl, Nat.le_refl _, rfl, fun _ => rfl, Nat.zero_le _, fun e he => by cases he⟩
theorem laid_add {m : LogV} {fl : Nat} {l : List UInt8} {df r : Nat} (h : LaidA m fl l df) (e : EvV) : LaidA (addM m l r e).1 fl (addM m l r e).2.1 df := by
  unfold addM
  split
  · rename_i hr
    split
    · refine ⟨by dsimp only; rw [bod_snoc, frames_snoc, h.bytes], by dsimp only; rw [List.length_append]; have := h.few; omega, ?_, h.none, h.short, fun x hx => ?_⟩
      · dsimp only
        rw [bod_snoc, List.take_append_of_le_length (by rw [bod_len]; have := h.few; omega)]
        exact h.fast
      · rcases List.mem_append.1 hx with hx | hx
        · exact h.right x hx
        · rw [List.mem_singleton.1 hx]; exact hr
    · exact h
  · exact h
theorem laid_sync {m : LogV} {fl : Nat} {l : List UInt8} {df : Nat} (h : LaidA m fl l df) : LaidA m m.l.length l l.length :=
  ⟨h.bytes, Nat.le_refl _, by rw [← bod_len, List.take_length, h.bytes], h.none, h.short, h.right⟩
theorem laid_crash {m : LogV} {fl : Nat} {l : List UInt8} {df : Nat} (h : LaidA m fl l df) (k a t : Int) :
    ∃ j, fl ≤ j ∧ j ≤ m.l.length ∧ openM (crashOf l df k a t) = (⟨m.s, m.b, reL (m.l.take j)⟩, (frames (bodOf ⟨m.s, m.b, m.l.take j⟩)).length) ∧
      (crashOf l df k a t).take (frames (bodOf ⟨m.s, m.b, m.l.take j⟩)).length = frames (bodOf ⟨m.s, m.b, m.l.take j⟩) := by
  obtain ⟨hb, hf, hfa, hn, hs, hr⟩ := h
  have hle := bod_le hs hr
  obtain ⟨i, r, i1, i2, i3, i4⟩ := crash_laid (bodOf m) hle ((if m.b = true then 1 else 0) + fl) (by rw [bod_len]; omega) k a t
  rw [bod_len] at i2
  obtain ⟨j, rfl⟩ : ∃ j, i = (if m.b = true then 1 else 0) + j := ⟨i - (if m.b = true then 1 else 0), by omega⟩
  rw [← hb, ← hfa] at i3
  refine ⟨j, by omega, by omega, ?_, ?_⟩
  · unfold openM
    rw [i3]
    have hsc := scan_frames r i4 ((bodOf m).take ((if m.b = true then 1 else 0) + j)) [] fun x hx => hle x (List.mem_of_mem_take hx)
    simp only [List.nil_append, List.length_nil] at hsc
    rw [hsc]
    have := takes_bod m ((if m.b = true then 1 else 0) + j) hn (by omega) hr
    rw [Nat.add_sub_cancel_left] at this
    dsimp only
    rw [this, bod_take]
  · rw [i3, bod_take, List.take_left]
end Go.Proofs.YtmljgobenlpnfaaGreat
end

section
namespace Go.Free
open Go.RowKit
theorem SpcC.okMono {P : Program} {f : FuncId} {As : List Fa} {c : Chunk} {X : Type} {ok ok' : X → Prop} {R : X → Fa} {c' : X → Chunk} (h : SpcC P f As c ok R c') (hk : ∀ x, ok x → ok' x) : SpcC P f As c ok' R c' := fun w args F hd hc => by
  refine (h w args F hd hc).mono ?_
  rintro e w' ⟨v, x, e1, e2, hr⟩
  exact ⟨v, x, e1, hk x e2, hr⟩
end Go.Free
namespace Go.Proofs.YtmljgobenlpnfaaGreat
open Go.Free Go.RowKit Go.Proofs Go.Free.Sorts
set_option maxHeartbeats 16000000
theorem apply2 (σ : Nat) {M : List EvV} {S : SpV} (h : SpOk M S) (hl : M.length ≤ 60) (e : EvV) (he : e.okV) :
    SpcC Tryz.prog 7 [.ex (ptr σ), .ex (aggE e)] (spC σ S) (fun S' : SpV => if readyP S.v e then SpOk (M ++ [e]) S' else S' = S) (fun _ => .ex (vi (codeS S.v e))) (fun S' => spC σ S') := by
  have hln := h.len hl e.key
  refine (apply_fn σ S h.wf h.right e he (h.liveOk _) (h.live _).sorted (h.dead _).sorted (by omega) (by omega)).okMono fun S' hS' => ?_
  by_cases hr : readyP S.v e
  · rw [if_pos hr] at hS' ⊢
    exact h.step hr he hS'
  · rw [if_neg hr] at hS' ⊢
    exact hS'
theorem type2 (σ : Nat) {M : List EvV} {S : SpV} (h : SpOk M S) (hl : M.length ≤ 60) (k : List UInt8) :
    SpcC Tryz.prog 15 [.ex (ptr σ), .ex (str k)] (spC σ S) (fun _ : Unit => True) (fun _ => .ex (vi (typeM M k))) (fun _ => spC σ S) := by
  have hln := h.len hl k
  rw [← h.type k]
  exact spType_fn σ S h.wf (fun x hx => by have := (h.ents hl x hx).1; omega) k (h.liveOk k) (bag_unlike (h.live k)) (by omega)
theorem items2 (σ : Nat) {M : List EvV} {S : SpV} (h : SpOk M S) (hl : M.length ≤ 60) (k : List UInt8) (ht : typeM M k = 6) :
    SpcC Tryz.prog 17 [.ex (ptr σ), .ex (str k)] (spC σ S) (fun _ : Option Addr × Nat => True) (fun x => .ex (.slice x.1 (itemsM k M).length x.2)) (fun x => allC [spC σ S, rowEv x.1 (itemsM k M).length x.2 (evsC (itemsM k M))]) := by
  have hln := h.len hl k
  rw [← h.items k ht]
  exact spItems_fn σ S h.wf (fun x hx => by have := (h.ents hl x hx).1; omega) (fun x hx => by have := (h.ents hl x hx).2; omega) k (h.liveOk k) (h.deadOk k) (bag_unlike (h.live k)) (h.live k).sorted (by omega)
theorem code_ready {v : Nat → Int} {e : EvV} : codeS v e = 0 ↔ readyP v e := by
  unfold codeS
  by_cases hr : rightP e
  · rw [if_pos hr]
    by_cases hy : readyP v e
    · rw [if_pos hy]; exact ⟨fun _ => hy, fun _ => rfl⟩
    · rw [if_neg hy]; exact ⟨fun h => absurd h (by decide), fun h => absurd h hy⟩
  · rw [if_neg hr]; exact ⟨fun h => absurd h (by decide), fun h => absurd h.1 hr⟩
theorem laid_df {m : LogV} {fl : Nat} {l : List UInt8} {df : Nat} (h : LaidA m fl l df) : df ≤ l.length := by
  rw [h.fast, h.bytes]
  have : frames (bodOf m) = frames ((bodOf m).take ((if m.b = true then 1 else 0) + fl)) ++ frames ((bodOf m).drop ((if m.b = true then 1 else 0) + fl)) := by rw [← frames_append, List.take_append_drop]
  have := congrArg List.length this
  rw [List.length_append] at this; omega
theorem crash_len (l : List UInt8) (f : Nat) (k a t : Int) (hf : f ≤ l.length) : (crashOf l f k a t).length ≤ l.length := by
  unfold crashOf
  rw [List.length_append, tail_length, List.length_take, List.length_take, List.length_drop]; omega
theorem evs_take (M : List EvV) (j : Nat) (hj : j ≤ M.length) : (evsC M).take (j * 26) = evsC (M.take j) := by
  have h1 : evsC M = evsC (M.take j) ++ evsC (M.drop j) := by
    conv => lhs; rw [← List.take_append_drop j M]
    show List.flatMap _ _ = _
    rw [List.flatMap_append]
  rw [h1, List.take_left' (by rw [evs_len, List.length_take]; omega)]
abbrev lgM (M : List EvV) : LogV := ⟨[], false, M⟩
theorem lg_add {M : List EvV} {lb : List UInt8} {e : EvV} (hr : rightP e) (hM : M.length ≤ 60) (hl : lb.length ≤ 707 * M.length) : addM (lgM M) lb 65536 e = (lgM (M ++ [e]), lb ++ evF e, 0) ∧ (lb ++ evF e).length ≤ 707 * (M ++ [e]).length := by
  have h1 := evF_le hr
  unfold addM
  rw [if_pos hr, if_pos (by omega)]
  refine ⟨rfl, ?_⟩
  simp only [List.length_append, List.length_cons, List.length_nil]; omega
theorem code_ev0 : codeS (fun _ => 0) ev0 = 1 ∧ ¬ readyP (fun _ => 0) ev0 := by
  have h : ¬ rightP ev0 := fun h => by have := h.1.2.2.1; exact absurd this (by decide)
  exact ⟨if_neg h, fun hr => h hr.1⟩
end Go.Proofs.YtmljgobenlpnfaaGreat
end

section
namespace Go.Free
open Go.RowKit
section
variable {P : Program} {n : Nat} {I : World → Prop} {E : Env} {Q : Exit → Act → World → Prop} {A : Nat → Prop} {H : List Chunk}
theorem J.baseC {cd : Code} {c : Chunk} {key q : Nat} (hk : look E key = some (heap A H)) (hq : H[q]? = some c) (h : ∀ (w1 : World) (F : Nat → Prop), I w1 → c.holds w1 F → J P n (fun w => Below w1.heap.size w1 w) cd Q (markE w1 E)) : J P n I cd Q E := fun a w h1 h2 h3 => by
  obtain ⟨φ, hL, _⟩ := h3 key _ hk
  exact h w _ h1 (hL.holds q _ hq) a w (Below.refl _ _) h2 (fun t f hf => by
    obtain ⟨g, hg, rfl⟩ := look_markE hf
    exact keepOld_den (h3 t g hg))
def tailC : Nat → Code → Code
  | 0, c => c
  | k + 1, .seq _ y => tailC k y
  | _ + 1, c => c
theorem J.weakW {cd : Code} {E' : Env} (h : Weak I E E') (hJ : J P n I cd Q E') : J P n I cd Q E := fun a w h1 h2 h3 => hJ a w h1 h2 (h.sat h1 h3)
end
end Go.Free
namespace Go.Proofs.YtmljgobenlpnfaaGreat
open Go.Free Go.RowKit Go.Proofs Go.Free.Sorts
set_option maxHeartbeats 16000000
def TopJ (w0 : World) (I : World → Prop) (k : Nat) (E : Env) : Prop := J Tryz.prog Tryz.f3.ntmps I (tailC k (Tryz.f3.body.getD .skip)) (FnPost Tryz.prog Tryz.f3 (fun _ => .ex (.bool true)) w0) E
theorem apply3 (σ : Nat) {M : List EvV} {S : SpV} (h : SpOk M S) (hl : M.length ≤ 60) (e : EvV) (he : e.okV) (hr : readyP S.v e) :
    SpcC Tryz.prog 7 [.ex (ptr σ), .ex (aggE e)] (spC σ S) (fun S' : SpV => SpOk (M ++ [e]) S' ∧ S'.v = putV2 S.v (dotOf e)) (fun _ => .ex (vi 0)) (fun S' => spC σ S') := by
  have hln := h.len hl e.key
  have hf := apply_fn σ S h.wf h.right e he (h.liveOk _) (h.live _).sorted (h.dead _).sorted (by omega) (by omega)
  rw [code_ready.2 hr] at hf
  refine hf.okMono fun S' hS' => ?_
  rw [if_pos hr] at hS'
  exact ⟨h.step hr he hS', hS'.v⟩
theorem take_snoc {M : List EvV} {i : Nat} (h : i < M.length) : M.take (i + 1) = M.take i ++ [M[i]] := by rw [List.take_append_getElem h]
theorem items_leM (key : List UInt8) (M : List EvV) : (itemsM key M).length ≤ M.length := Nat.le_trans (List.length_filter_le _ _) (order_len key M)
theorem items_in {key : List UInt8} {M : List EvV} {x : EvV} (h : x ∈ itemsM key M) : x ∈ M := (order_node x (List.mem_filter.1 h).1).1
end Go.Proofs.YtmljgobenlpnfaaGreat
end

section
namespace Go.Proofs.YtmljgobenlpnfaaGreat
open Go.Free Go.RowKit Go.Proofs Go.Free.Sorts
set_option maxHeartbeats 16000000
theorem topCrash (w0 : World) (L : List EvV) (k a t : Int) (hk : in64 k) (ha : in64 a) (ht : in64 t) (β γ : Nat) (M : List EvV) (O : Option Addr) (oc fl : Nat) (lb : List UInt8) (df : Nat) (hM : M.length ≤ 60) (hla : LaidA (lgM M) fl lb df) (hlb : lb.length ≤ 707 * M.length) (hok : ∀ e ∈ M, e.okV)
    (hnext : ∀ (w1 : World) (F : Nat → Prop) (j : Nat) (B : Option Addr) (c : Nat), Below w0.heap.size w0 w1 → fl ≤ j → j ≤ M.length → (rowEv B (M.take j).length c (evsC (M.take j))).holds w1 F →
      TopJ w0 (fun w => Below w1.heap.size w1 w) 13 [(0, old w0 (row 26 (evsC L))), (20, .ex (.slice B (M.take j).length c))]) :
    TopJ w0 (fun w => Below w0.heap.size w0 w) 7 [(0, old w0 (row 26 (evsC L))), (2, .ex (vi k)), (3, .ex (vi a)), (4, .ex (vi t)), (12, .ex (ptr β)), (13, .ex (ptr γ)), (15, .ex (.slice O M.length oc)), (1000, heap (newB w0) [logC γ β (lgM M) fl, diskC β lb df 65536, rowEv O M.length oc (evsC M)])] := by
  have hI := hIb w0
  have hA := Own.below w0
  have hdf := laid_df hla
  have hcl := crash_len lb df k a t hdf
  obtain ⟨j, hj1, hj2, hop, htk⟩ := laid_crash hla k a t
  dsimp only at hj2 hop htk
  have hnx := fun w1 F B c h1 h4 => hnext w1 F j B c h1 hj1 hj2 h4
  obtain ⟨M1, hM1⟩ : ∃ M1, M1 = M.take j := ⟨_, rfl⟩
  rw [← hM1] at hop htk hnx
  have hMl : M1.length = j := by rw [hM1, List.length_take]; omega
  have hMr : ∀ x ∈ M1, rightP x := fun x hx => hla.right x (by rw [hM1] at hx; exact List.mem_of_mem_take hx)
  have hMe : evsC (reL M1) = evsC M1 := evs_re hMr
  have hRl : (reL M1).length = j := by simp [reL, hMl]
  have hal : (evsC M).take (j * 26) = evsC M1 := by rw [hM1]; exact evs_take M j hj2
  have hsame := sameE_fn M1 (by omega) (fun x hx => hok x (by rw [hM1] at hx; exact List.mem_of_mem_take hx))
  obtain ⟨l1, hl1⟩ : ∃ l1, l1 = frames (bodOf (lgM M1)) := ⟨_, rfl⟩
  rw [← hl1] at hop htk
  have hl1l : l1.length ≤ 65536 := by
    have := congrArg List.length htk
    rw [List.length_take] at this; omega
  obtain ⟨R, hR⟩ : ∃ R, R = reL M1 := ⟨_, rfl⟩
  rw [← hR] at hop hRl hMe
  have hcr := disk_Crash β lb df 65536 k a t (by omega) hdf hk ha ht
  have hopn := open_fn β (crashOf lb df k a t) (crashOf lb df k a t).length 65536 (by omega)
  rw [hop] at hopn
  simp only [htk] at hopn
  generalize hfd : (if l1.length < (crashOf lb df k a t).length then l1.length else (crashOf lb df k a t).length) = fd at hopn
  unfold TopJ
  refine J.seq (J.region mixed hI (by kernel_rfl) ?_)
  repeat (refine Plan.move rfl rfl rfl rfl ?_)
  refine Plan.callR (key := 1000) (B := 0) (q := 0) rfl rfl rfl (log_Fast γ β (lgM M) fl) Tryz.func10 rfl rfl (fun _ _ => Nat.zero_le _) (by repeat (first | exact Opnds.nil | refine Opnds.cons rfl (by exact Sub.refl _) ?_)) rfl rfl (by decide) ?_
  repeat (refine Plan.assign rfl rfl rfl rfl ?_)
  refine J.seq (J.region mixed hI (by kernel_rfl) ?_)
  repeat (refine Plan.move rfl rfl rfl rfl ?_)
  refine Plan.callC (key := 1000) (q := 1) rfl rfl rfl (hcr) Tryz.func11 rfl rfl (by intro _ e; cases e; decide) (by repeat (first | exact Opnds.nil | refine Opnds.cons rfl (by exact Sub.refl _) ?_)) rfl hA rfl ?_
  intro _ _
  repeat (fail)
  refine J.seq (J.region mixed hI (by kernel_rfl) ?_)
  repeat (refine Plan.move rfl rfl rfl rfl ?_)
  refine Plan.callC (key := 1000) (q := 1) rfl rfl rfl (hopn) Tryz.func6 rfl rfl (by intro _ e; cases e; decide) (by repeat (first | exact Opnds.nil | refine Opnds.cons rfl (by exact Sub.refl _) ?_)) rfl hA rfl ?_
  intro δ _
  repeat (first | refine Plan.move rfl rfl rfl rfl ?_ | refine Plan.assign rfl rfl rfl rfl ?_ | refine Plan.extract rfl rfl rfl rfl rfl ?_)
  refine J.regroup (key := 1000) [logC γ β (lgM M) fl, logC δ β ⟨[], false, R⟩ R.length, diskC β l1 fd 65536, rowEv O M.length oc (evsC M)] rfl (Ent.sep (Ent.refl _) (Ent.joinC (H1 := [_, _]))) ?_
  refine J.seq (J.seq (J.region mixed hI (by kernel_rfl) ?_))
  repeat (first | refine Plan.move rfl rfl rfl rfl ?_ | refine Plan.pick rfl rfl rfl rfl rfl ?_ | (refine Plan.ints rfl rfl rfl rfl rfl rfl ?_; (skip)) | refine Plan.eqlPtr rfl rfl rfl rfl (by kernel_rfl) ?_)
  refine J.condF rfl ?_
  refine J.skip ?_
  refine J.seq (J.region mixed hI (by kernel_rfl) ?_)
  repeat (refine Plan.move rfl rfl rfl rfl ?_)
  refine Plan.callRO (key := 1000) rfl rfl rfl (log_Events δ β ⟨[], false, R⟩ R.length (by dsimp only; omega)) (fun _ => rfl) Tryz.func12 rfl rfl (by intro _ e; cases e; decide) (by repeat (first | exact Opnds.nil | refine Opnds.cons rfl (by exact Sub.refl _) ?_)) rfl hA (Ent.right.trans Ent.left) fun B2 m2 c2 hm2 => ?_
  obtain rfl : m2 = j := by rw [evs_len] at hm2; dsimp only at hm2; omega
  rw [hMe]
  repeat (refine Plan.assign rfl rfl rfl rfl ?_)
  refine J.seq (J.seq (J.region mixed hI (by kernel_rfl) ?_))
  repeat (first | refine Plan.move rfl rfl rfl rfl ?_ | refine Plan.lenE rfl rfl rfl rfl (by first | exact Tryz.underlying56 | exact Tryz.underlying22) ?_ | (refine Plan.ints rfl rfl rfl rfl rfl rfl ?_; (skip)))
  repeat (fail)
  refine Plan.boolv (y := false) (by simp only [decide_eq_false_iff_not]; omega) ?_
  repeat (first | refine Plan.move rfl rfl rfl rfl ?_ | refine Plan.pick rfl rfl rfl rfl rfl ?_ | refine Plan.lenE rfl rfl rfl rfl (by first | exact Tryz.underlying56 | exact Tryz.underlying22) ?_ | (refine Plan.ints rfl rfl rfl rfl rfl rfl ?_; (skip)))
  repeat (fail)
  repeat (fail)
  refine Plan.boolv (y := false) (by simp only [decide_eq_false_iff_not]; omega) ?_
  repeat (first | refine Plan.move rfl rfl rfl rfl ?_ | refine Plan.lenE rfl rfl rfl rfl (by first | exact Tryz.underlying56 | exact Tryz.underlying22) ?_)
  refine Plan.seeC (t := 136) (key := 1000) (q := 3) (by kernel_rfl) hI rfl rfl rfl (fun w F h => row_rowH h) ?_
  refine Plan.seeC (t := 135) (key := 1000) (q := 4) (by kernel_rfl) hI rfl rfl rfl (fun w F h => row_rowH h) ?_
  refine Plan.sliceRow (m := M.length) (a0 := 0) (b0 := m2) rfl rfl rfl rfl (Sub.refl _) eltE (by rw [evs_len]) (.inl ⟨rfl, rfl⟩) (.inr ⟨_, _, rfl, rfl⟩) (Nat.zero_le _) (by omega) ?_
  rw [hal, Nat.zero_mul, List.drop_zero]
  refine Plan.call (B := w0.heap.size) rfl rfl rfl (hsame) Tryz.func13 rfl rfl (hBb w0) (by repeat (first | exact Opnds.nil | refine Opnds.cons rfl (by exact Sub.refl _) ?_)) ?_
  repeat (first | refine Plan.pick rfl rfl rfl rfl rfl ?_ | refine Plan.un rfl rfl rfl rfl rfl ?_)
  refine J.condF rfl ?_
  refine J.skip ?_
  refine J.baseC (key := 1000) (q := 4) rfl rfl fun w1 F hw1 hrow => ?_
  rw [← hMl] at hrow ⊢
  refine J.weakW ?_ (hnx w1 F B2 c2 hw1 hrow)
  repeat (first | exact Weak.nil | refine Weak.cons rfl (Sub.refl _) ?_)
end Go.Proofs.YtmljgobenlpnfaaGreat
end

section
namespace Go.Proofs.YtmljgobenlpnfaaGreat
open Go.Free Go.RowKit Go.Proofs Go.Free.Sorts
set_option maxHeartbeats 16000000
def tlC (w0 w1 : World) (L : List EvV) (B : Option Addr) (c : Nat) (M : List EvV) (τ ν : Nat) (x : Nat × SpV) : Env :=
  [(0, old w0 (row 26 (evsC L))), (20, .ex (.slice B M.length c)), (21, .ex (ptr τ)), (22, .ex (ptr ν)), (145, .ex (vi M.length)), (146, .ex (vi x.1)), (1000, heap (newB w1) [spC τ x.2, obj ν (vList x.2.v)])]
theorem topSees (w0 w1 : World) (hw1 : Below w0.heap.size w0 w1) (L M : List EvV) (hM : M.length ≤ 60) (hch : Chain M) (hok : ∀ e ∈ M, e.okV) (B : Option Addr) (c : Nat) (F : Nat → Prop) (hrow : (rowEv B M.length c (evsC M)).holds w1 F)
    (hnext : ∀ (τ ν : Nat) (S : SpV), SpOk M S → TopJ w0 (fun w => Below w1.heap.size w1 w) 16 [(0, old w0 (row 26 (evsC L))), (20, .ex (.slice B M.length c)), (21, .ex (ptr τ)), (22, .ex (ptr ν)), (1000, heap (newB w1) [spC τ S, obj ν (vList S.v)])]) :
    TopJ w0 (fun w => Below w1.heap.size w1 w) 13 [(0, old w0 (row 26 (evsC L))), (20, .ex (.slice B M.length c))] := by
  have hI := hIb w1
  have hA := Own.below w1
  unfold TopJ
  refine J.heap0 1000 (newB w1) ?_
  refine J.seq (J.region mixed hI (by kernel_rfl) ?_)
  refine Plan.callN (key := 1000) rfl rfl rfl (new_fn) Tryz.func4 rfl rfl (by intro _ e; cases e; decide) (by repeat (exact Opnds.nil)) rfl hA ?_
  intro τ _
  repeat (refine Plan.assign rfl rfl rfl rfl ?_)
  refine J.seq (J.region mixed hI (by kernel_rfl) ?_)
  refine Plan.allocC (key := 1000) (z := .agg (vList fun _ => 0).toArray) rfl rfl rfl (by intro _ e; cases e; decide) (by kernel_rfl) rfl hA fun ν => ?_
  repeat (fail)
  refine J.seq (J.seq (J.region mixed hI (by kernel_rfl) ?_))
  repeat (first | refine Plan.move rfl rfl rfl rfl ?_ | refine Plan.lenE rfl rfl rfl rfl (by first | exact Tryz.underlying56 | exact Tryz.underlying22) ?_)
  repeat (fail)
  refine J.block (J.loop (tlC w0 w1 L B c M τ ν) (fun x => x.1 ≤ M.length ∧ SpOk (M.take x.1) x.2) (fun x => M.length - x.1) (0, sp0) ⟨Nat.zero_le _, by rw [List.take_zero]; exact spok0⟩ ?_ ?_)
  · repeat (first | exact Weak.nil | refine Weak.cons rfl (Sub.refl _) ?_)
  rintro ⟨i, S⟩ ⟨hi, hsp⟩
  simp only at hi hsp
  change J _ _ _ _ _ (tlC w0 w1 L B c M τ ν (i, S))
  refine J.seq (J.region mixed hI (by kernel_rfl) ?_)
  repeat ((refine Plan.ints rfl rfl rfl rfl rfl rfl ?_; (skip)))
  refine J.seq (J.condD rfl (fun hc => ?_) (fun hc => ?_))
  · have hlt : i < M.length := by
      first | omega | (dsimp only at hc; omega)
    obtain ⟨g, rfl⟩ := row_at (by rw [evs_len]; omega) w1 F hrow
    have hts := take_snoc hlt
    have hat := evs_at M hlt
    have hrd := (ready_congr hsp.v M[i]).2 (hch i hlt)
    have heo : M[i].okV := hok _ (List.getElem_mem hlt)
    obtain ⟨e, he⟩ : ∃ e, e = M[i] := ⟨_, rfl⟩
    rw [← he] at hts hat hrd heo
    have hd0 : dotP e.r e.n := hrd.1.1
    have hce : ∀ (us : List Value) (off : Nat), (e.enc.drop off).take us.length = us → ∀ w, Below w1.heap.size w1 w → ∀ j u, us[j]? = some u → w.cell? ⟨g, i * 26 + off + j, none⟩ = some u := fun us off hus w hw j u hu => by
      have h1 : e.enc[off + j]? = some u := by
        have hj : j < us.length := (List.getElem?_eq_some_iff.1 hu).1
        rw [← hus, List.getElem?_take, if_pos hj, List.getElem?_drop] at hu
        exact hu
      have h2 := row_reads (e := 40) (sz := 26) (n := M.length) (cap := c) (β := g) hat w F ((rowEv (some ⟨g, 0, none⟩) M.length c (evsC M)).keep (S := fun _ => False) hrow (.ofBelow hw) fun _ _ h => h) (off + j) u h1
      rw [Nat.add_assoc]; exact h2
    have hA2 := apply3 τ hsp (by rw [List.length_take]; omega) e heo hrd
    refine J.skip ?_
    refine J.seq (J.block ?_)
    refine J.seq (J.region mixed hI (by kernel_rfl) ?_)
    repeat (first | refine Plan.move rfl rfl rfl rfl ?_ | refine Plan.assign rfl rfl rfl rfl ?_)
    have hI0 := hI
    have hA0 := hA
    refine J.frame (key := 1000) 1 rfl rfl fun hAa => ?_
    have hI := framed_I (β := ν) (cs := vList S.v) hI0
    have hA := framed_own (β := ν) (cs := vList S.v) hA0
    refine J.seq (J.loose2 [(0, aggV S.v), (1, .slice (some ⟨g, 0, none⟩) M.length c), (2, vi i), (3, .pointer (some ⟨g, i * 26, none⟩)), (4, .pointer (some ⟨g, i * 26, none⟩)), (5, aggD e.r e.n), (6, .tuple #[aggV (putV2 S.v (e.r, e.n)), vi 0]), (7, .tuple #[aggV (putV2 S.v (e.r, e.n)), vi 0]), (8, aggV (putV2 S.v (e.r, e.n))), (9, vi 0)] [(20, .ex (.slice (some ⟨g, 0, none⟩) M.length c)), (22, .ex (ptr ν)), (23, .ex (vi i))] mixed hI rfl rfl rfl (by kernel_rfl) (by kernel_rfl) (by kernel_rfl) rfl rfl (fun ⟨_, _, h⟩ => h) (fun _ _ _ _ h => h) (by repeat (first | exact Weak.nil | refine Weak.cons rfl (Sub.refl _) ?_)) ?_ ?_)
    · refine Gives.cons [(20, .ex (.slice (some ⟨g, 0, none⟩) M.length c)), (22, .ex (ptr ν)), (23, .ex (vi i))] (by kernel_rfl) rfl (by kernel_rfl) (Plan.loadAggI (vs := vList S.v) rfl rfl rfl rfl (fun w h => framed_cell (off := 0) rfl w h) Tryz.underlying36 rfl (by kernel_rfl) (Plan.gives rfl)) ?_
      refine Gives.cons [(20, .ex (.slice (some ⟨g, 0, none⟩) M.length c)), (22, .ex (ptr ν)), (23, .ex (vi i))] (by kernel_rfl) rfl (by kernel_rfl) (Plan.move rfl rfl rfl rfl (Plan.gives rfl)) ?_
      refine Gives.cons [(20, .ex (.slice (some ⟨g, 0, none⟩) M.length c)), (22, .ex (ptr ν)), (23, .ex (vi i))] (by kernel_rfl) rfl (by kernel_rfl) (Plan.move rfl rfl rfl rfl (Plan.gives rfl)) ?_
      refine Gives.cons [(151, .ex (.slice (some ⟨g, 0, none⟩) M.length c)), (152, .ex (vi i)), (20, .ex (.slice (some ⟨g, 0, none⟩) M.length c)), (22, .ex (ptr ν)), (23, .ex (vi i))] (by kernel_rfl) rfl (by kernel_rfl) (Plan.indexC (off := i * 26) rfl rfl rfl rfl rfl eltE hlt (by omega) (Plan.gives rfl)) ?_
      refine Gives.cons [(151, .ex (.slice (some ⟨g, 0, none⟩) M.length c)), (152, .ex (vi i)), (153, .ex (.pointer (some ⟨g, i * 26, none⟩))), (20, .ex (.slice (some ⟨g, 0, none⟩) M.length c)), (22, .ex (ptr ν)), (23, .ex (vi i))] (by kernel_rfl) rfl (by kernel_rfl) (Plan.fieldC (off := i * 26) rfl rfl rfl rfl Tryz.underlying40 rfl (by kernel_rfl) rfl (Plan.gives rfl)) ?_
      refine Gives.cons [(151, .ex (.slice (some ⟨g, 0, none⟩) M.length c)), (152, .ex (vi i)), (153, .ex (.pointer (some ⟨g, i * 26, none⟩))), (154, .ex (.pointer (some ⟨g, i * 26, none⟩))), (20, .ex (.slice (some ⟨g, 0, none⟩) M.length c)), (22, .ex (ptr ν)), (23, .ex (vi i))] (by kernel_rfl) rfl (by kernel_rfl) (Plan.loadAggI (vs := [vi e.r, vi e.n]) rfl rfl rfl rfl (fun w h => hce [vi e.r, vi e.n] 0 rfl w h.1) Tryz.underlying34 rfl (by kernel_rfl) (Plan.gives rfl)) ?_
      refine Gives.cons [(150, .ex (aggV S.v)), (151, .ex (.slice (some ⟨g, 0, none⟩) M.length c)), (152, .ex (vi i)), (153, .ex (.pointer (some ⟨g, i * 26, none⟩))), (154, .ex (.pointer (some ⟨g, i * 26, none⟩))), (155, .ex (aggD e.r e.n)), (20, .ex (.slice (some ⟨g, 0, none⟩) M.length c)), (22, .ex (ptr ν)), (23, .ex (vi i))] (by kernel_rfl) rfl (by kernel_rfl) (Plan.call (B := 0) rfl rfl rfl (with_fn S.v (e.r, e.n) hsp.right hd0 hrd.2.1) Tryz.func14 rfl rfl (fun _ _ => Nat.zero_le _) (Opnds.cons rfl (Sub.refl _) (Opnds.cons rfl (Sub.refl _) Opnds.nil)) (Plan.weakE [(156, .ex (.tuple #[aggV (putV2 S.v (e.r, e.n)), vi 0]))] (Weak.cons rfl Sub.tupEx Weak.nil) (Plan.gives rfl))) ?_
      refine Gives.cons [(150, .ex (aggV S.v)), (151, .ex (.slice (some ⟨g, 0, none⟩) M.length c)), (152, .ex (vi i)), (153, .ex (.pointer (some ⟨g, i * 26, none⟩))), (154, .ex (.pointer (some ⟨g, i * 26, none⟩))), (155, .ex (aggD e.r e.n)), (156, .ex (.tuple #[aggV (putV2 S.v (e.r, e.n)), vi 0])), (20, .ex (.slice (some ⟨g, 0, none⟩) M.length c)), (22, .ex (ptr ν)), (23, .ex (vi i))] (by kernel_rfl) rfl (by kernel_rfl) (Plan.move rfl rfl rfl rfl (Plan.gives rfl)) ?_
      refine Gives.cons [(150, .ex (aggV S.v)), (151, .ex (.slice (some ⟨g, 0, none⟩) M.length c)), (152, .ex (vi i)), (153, .ex (.pointer (some ⟨g, i * 26, none⟩))), (154, .ex (.pointer (some ⟨g, i * 26, none⟩))), (155, .ex (aggD e.r e.n)), (156, .ex (.tuple #[aggV (putV2 S.v (e.r, e.n)), vi 0])), (149, .ex (.tuple #[aggV (putV2 S.v (e.r, e.n)), vi 0])), (20, .ex (.slice (some ⟨g, 0, none⟩) M.length c)), (22, .ex (ptr ν)), (23, .ex (vi i))] (by kernel_rfl) rfl (by kernel_rfl) (Plan.extractEx rfl rfl rfl rfl rfl (Plan.gives rfl)) ?_
      exact Gives.cons [(150, .ex (aggV S.v)), (151, .ex (.slice (some ⟨g, 0, none⟩) M.length c)), (152, .ex (vi i)), (153, .ex (.pointer (some ⟨g, i * 26, none⟩))), (154, .ex (.pointer (some ⟨g, i * 26, none⟩))), (155, .ex (aggD e.r e.n)), (156, .ex (.tuple #[aggV (putV2 S.v (e.r, e.n)), vi 0])), (149, .ex (.tuple #[aggV (putV2 S.v (e.r, e.n)), vi 0])), (20, .ex (.slice (some ⟨g, 0, none⟩) M.length c)), (22, .ex (ptr ν)), (23, .ex (vi i))] (by kernel_rfl) rfl (by kernel_rfl) (Plan.extractEx rfl rfl rfl rfl rfl (Plan.gives rfl)) Gives.nil
    repeat (refine Plan.assign rfl rfl rfl rfl ?_)
    refine Plan.allocC (key := 1000) (z := .agg (vList fun _ => 0).toArray) rfl rfl rfl (by intro _ e; cases e; decide) (by kernel_rfl) rfl hA fun ξ => ?_
    refine Plan.storeC (key := 1000) (q := 1) (off := 0) rfl rfl rfl rfl rfl rfl (by simp [Value.cells, Value.oneCell', vList]) (by show _ = some (vList (putV2 S.v (e.r, e.n))).toArray.size; kernel_rfl) rfl hA rfl (obj_pat (Nat.le_of_ble_eq_true rfl)) ?_
    repeat (refine Plan.assign rfl rfl rfl rfl ?_)
    refine J.unframe (key := 1000) hAa rfl ?_
    have hI := hI0
    have hA := hA0
    refine J.regroup (key := 1000) [spC τ S, obj ν (vList S.v), obj ξ (vList (putV2 S.v (e.r, e.n)))] rfl (Ent.pickC [0, 2, 1] rfl rfl) ?_
    refine J.seq (J.seq (J.region mixed hI (by kernel_rfl) ?_))
    repeat (refine Plan.move rfl rfl rfl rfl ?_)
    refine Plan.indexC (off := i * 26) rfl rfl rfl rfl rfl eltE hlt (by omega) ?_
    refine Plan.loadAggI (vs := e.enc) rfl rfl rfl rfl (fun w h => hce e.enc 0 (by rw [List.drop_zero, List.take_length]) w h) Tryz.underlying40 rfl (by rw [encE]; kernel_rfl) ?_
    refine Plan.callC (key := 1000) (q := 0) rfl rfl rfl (hA2) Tryz.func7 rfl rfl (by intro _ e; cases e; decide) (by repeat (first | exact Opnds.nil | refine Opnds.cons rfl (by exact Sub.refl _) ?_)) rfl hA rfl ?_
    rintro S' ⟨hS', hv'⟩
    repeat (first | refine Plan.move rfl rfl rfl rfl ?_ | refine Plan.pick rfl rfl rfl rfl rfl ?_ | (refine Plan.ints rfl rfl rfl rfl rfl rfl ?_; (skip)))
    refine J.condF rfl ?_
    refine J.skip ?_
    refine J.region mixed hI (by kernel_rfl) ?_
    refine Plan.loadAggC (key := 1000) (q := 2) (vs := vList (putV2 S.v (e.r, e.n))) rfl rfl rfl rfl rfl rfl obj_whole Tryz.underlying36 rfl (by kernel_rfl) (by decide) ?_
    refine Plan.storeC (key := 1000) (q := 1) (off := 0) rfl rfl rfl rfl rfl rfl (by simp [Value.cells, Value.oneCell', vList]) (by show _ = some (vList (putV2 S.v (e.r, e.n))).toArray.size; kernel_rfl) rfl hA rfl (obj_pat (Nat.le_of_ble_eq_true rfl)) ?_
    repeat (fail)
    refine J.region mixed hI (by kernel_rfl) ?_
    repeat (first | refine Plan.move rfl rfl rfl rfl ?_ | (refine Plan.ints rfl rfl rfl rfl rfl rfl ?_; (refine Plan.int (i64r (by omega)) ?_)))
    refine Plan.int (y := ((i + 1 : Nat) : Int)) (by omega) ?_
    repeat (fail)
    rw [← hts] at hS'
    refine Nrm.next (i + 1, S') ⟨hlt, hS'⟩ (by dsimp only; omega) ?_
    unfold tlC
    dsimp only
    rw [hv']
    exact (by repeat (first | exact Weak.nil | refine Weak.cons rfl (Sub.refl _) ?_ | refine Weak.cons rfl (Sub.heap (Ent.pickC [0, 1] rfl rfl)) ?_))
  have hie : i = M.length := by
    first | omega | (dsimp only at hc; omega)
  subst hie
  rw [List.take_length] at hsp
  refine J.exit ?_
  refine J.weakW ?_ (hnext τ ν S hsp)
  unfold tlC
  repeat (first | exact Weak.nil | refine Weak.cons rfl (Sub.refl _) ?_)
end Go.Proofs.YtmljgobenlpnfaaGreat
end

section
namespace Go.Proofs.YtmljgobenlpnfaaGreat
open Go.Free Go.RowKit Go.Proofs Go.Free.Sorts
set_option maxHeartbeats 16000000
def tlD (w0 w1 : World) (L : List EvV) (B : Option Addr) (c : Nat) (M : List EvV) (τ ν : Nat) (S : SpV) (i : Nat) : Env :=
  [(0, old w0 (row 26 (evsC L))), (20, .ex (.slice B M.length c)), (21, .ex (ptr τ)), (22, .ex (ptr ν)), (173, .ex (vi L.length)), (174, .ex (vi i)), (1000, heap (newB w1) [spC τ S, obj ν (vList S.v)])]
theorem topTells (w0 w1 : World) (hw1 : Below w0.heap.size w0 w1) (L M : List EvV) (hL : L.length ≤ 60) (hM : M.length ≤ 60) (hch : Chain M) (hok : ∀ e ∈ M, e.okV) (B : Option Addr) (c : Nat) (F : Nat → Prop) (hrow : (rowEv B M.length c (evsC M)).holds w1 F) (τ ν : Nat) (S : SpV) (hsp : SpOk M S) :
    TopJ w0 (fun w => Below w1.heap.size w1 w) 16 [(0, old w0 (row 26 (evsC L))), (20, .ex (.slice B M.length c)), (21, .ex (ptr τ)), (22, .ex (ptr ν)), (1000, heap (newB w1) [spC τ S, obj ν (vList S.v)])] := by
  have hI := hIb w1
  have hA := Own.below w1
  have hI0 := hIb w0
  have hw : ∀ w, Below w1.heap.size w1 w → Below w0.heap.size w0 w := fun w h => hI0 w1 w hw1 h
  have hu := hsp.unlike
  have hden : (row 26 (evsC M)).den w1 (.slice B M.length c) := row_rowH hrow
  unfold TopJ
  refine J.seq (J.seq (J.region mixed hI (by kernel_rfl) ?_))
  repeat (refine Plan.move rfl rfl rfl rfl ?_)
  refine Plan.lenRow (m := L.length) rfl rfl rfl rfl (Sub.old fun w h => hw w h) Tryz.underlying22 (by rw [evs_len]) (by decide) ?_
  repeat (refine Plan.move rfl rfl rfl rfl ?_)
  refine J.block (J.loop (tlD w0 w1 L B c M τ ν S) (fun i => i ≤ L.length) (fun i => L.length - i) 0 (Nat.zero_le _) ?_ ?_)
  · repeat (first | exact Weak.nil | refine Weak.cons rfl (Sub.refl _) ?_)
  intro i hi
  refine J.seq (J.region mixed hI (by kernel_rfl) ?_)
  repeat ((refine Plan.ints rfl rfl rfl rfl rfl rfl ?_; (skip)))
  refine J.seq (J.condD rfl (fun hc => ?_) (fun hc => ?_))
  · have hlt : i < L.length := by
      first | omega | (dsimp only at hc; omega)
    obtain ⟨e, he⟩ : ∃ e, e = L[i] := ⟨_, rfl⟩
    have hgd : L.getD i ev0 = e := by rw [he]; exact getD_at hlt
    have hty := type2 τ hsp hM e.key
    have hty1 := type_fn M (by omega) hok hu e.key
    refine J.skip ?_
    refine J.seq (J.block ?_)
    refine J.seq (J.region mixed hI (by kernel_rfl) ?_)
    repeat (first | refine Plan.move rfl rfl rfl rfl ?_ | refine Plan.assign rfl rfl rfl rfl ?_)
    refine J.seq (J.region mixed hI (by kernel_rfl) ?_)
    repeat (refine Plan.move rfl rfl rfl rfl ?_)
    refine Plan.indexAddr EvV.enc 26 L ev0 rfl rfl rfl rfl (Sub.old fun w h => hw w h) rfl eltE encE (by omega) (by omega) ?_
    rw [Int.toNat_natCast, hgd]
    refine Plan.fieldPtr (us := e.op) rfl rfl rfl rfl (Sub.refl _) Tryz.underlying40 rfl (by kernel_rfl) rfl ?_
    refine Plan.fieldPtr (us := [str e.key]) rfl rfl rfl rfl (Sub.refl _) Tryz.underlying38 rfl (by kernel_rfl) rfl ?_
    refine Plan.load rfl rfl rfl rfl (Sub.refl _) Tryz.underlying9 rfl ?_
    repeat (refine Plan.assign rfl rfl rfl rfl ?_)
    refine J.seq (J.seq (J.region mixed hI (by kernel_rfl) ?_))
    repeat (refine Plan.move rfl rfl rfl rfl ?_)
    refine Plan.callC (key := 1000) (q := 0) rfl rfl rfl (hty) Tryz.func15 rfl rfl (by intro _ e; cases e; decide) (by repeat (first | exact Opnds.nil | refine Opnds.cons rfl (by exact Sub.refl _) ?_)) rfl hA rfl ?_
    intro _ _
    repeat (refine Plan.move rfl rfl rfl rfl ?_)
    refine Plan.call (B := 0) rfl rfl rfl hty1 Tryz.func16 rfl rfl (fun _ _ => Nat.zero_le _) (Opnds.cons rfl (Sub.known (fun _ h => h) hden) (Opnds.cons rfl (Sub.refl _) Opnds.nil)) ?_
    repeat ((refine Plan.ints rfl rfl rfl rfl rfl rfl ?_; (skip)))
    refine Plan.boolv (y := false) (by simp) ?_
    repeat (fail)
    refine J.condF rfl ?_
    refine J.skip ?_
    refine J.seq (J.region mixed hI (by kernel_rfl) ?_)
    repeat (refine Plan.move rfl rfl rfl rfl ?_)
    refine Plan.callC (key := 1000) (q := 0) rfl rfl rfl (hty) Tryz.func15 rfl rfl (by intro _ e; cases e; decide) (by repeat (first | exact Opnds.nil | refine Opnds.cons rfl (by exact Sub.refl _) ?_)) rfl hA rfl ?_
    intro _ _
    repeat (first | refine Plan.move rfl rfl rfl rfl ?_ | (refine Plan.ints rfl rfl rfl rfl rfl rfl ?_; (skip)))
    by_cases h6 : typeM M e.key = 6
    case neg =>
      refine Plan.boolv (y := false) (by simp [h6]) ?_
      repeat (first | refine Plan.skip rfl rfl ?_ | refine Plan.pick rfl rfl rfl rfl rfl ?_)
      refine J.condF rfl ?_
      refine J.skip ?_
      refine J.region mixed hI (by kernel_rfl) ?_
      repeat (first | refine Plan.move rfl rfl rfl rfl ?_ | (refine Plan.ints rfl rfl rfl rfl rfl rfl ?_; (refine Plan.int (i64r (by omega)) ?_)))
      refine Plan.int (y := ((i + 1 : Nat) : Int)) (by omega) ?_
      repeat (fail)
      refine Nrm.next (i + 1) hlt (by omega) ?_
      unfold tlD
      exact (by repeat (first | exact Weak.nil | refine Weak.cons rfl (Sub.refl _) ?_))
    case pos =>
    refine Plan.boolv (y := true) (by simp [h6]) ?_
    repeat (refine Plan.move rfl rfl rfl rfl ?_)
    have hit := items2 τ hsp hM e.key h6
    have hit1 := items_fn M (by omega) hok e.key
    have hsm := sameE_fn (itemsM e.key M) (Nat.le_trans (items_leM e.key M) (by omega)) (fun x hx => hok x (items_in hx))
    refine Plan.callC (key := 1000) (q := 0) rfl rfl rfl (hit) Tryz.func17 rfl rfl (by intro _ e; cases e; decide) (by repeat (first | exact Opnds.nil | refine Opnds.cons rfl (by exact Sub.refl _) ?_)) rfl hA rfl ?_
    rintro ⟨Bi, ci⟩ _
    repeat (refine Plan.move rfl rfl rfl rfl ?_)
    refine Plan.regroup [spC τ S, rowEv Bi (itemsM e.key M).length ci (evsC (itemsM e.key M)), obj ν (vList S.v)] (by kernel_rfl) hI (key := 1000) rfl (Ent.joinC (H1 := [_, _])) ?_
    refine Plan.call (B := 0) rfl rfl rfl hit1 Tryz.func18 rfl rfl (fun _ _ => Nat.zero_le _) (Opnds.cons rfl (Sub.known (fun _ h => h) hden) (Opnds.cons rfl (Sub.refl _) Opnds.nil)) ?_
    refine Plan.seeC (t := 197) (key := 1000) (q := 1) (by kernel_rfl) hI rfl rfl rfl (fun w F h => row_rowH h) ?_
    refine Plan.call (B := 0) rfl rfl rfl hsm Tryz.func13 rfl rfl (fun _ _ => Nat.zero_le _) (by repeat (first | exact Opnds.nil | refine Opnds.cons rfl (by first | exact Sub.refl _ | exact Sub.own) ?_)) ?_
    repeat (first | refine Plan.pick rfl rfl rfl rfl rfl ?_ | refine Plan.un rfl rfl rfl rfl rfl ?_)
    refine J.condF rfl ?_
    refine J.skip ?_
    refine J.region mixed hI (by kernel_rfl) ?_
    repeat (first | refine Plan.move rfl rfl rfl rfl ?_ | (refine Plan.ints rfl rfl rfl rfl rfl rfl ?_; (refine Plan.int (i64r (by omega)) ?_)))
    refine Plan.int (y := ((i + 1 : Nat) : Int)) (by omega) ?_
    repeat (fail)
    refine Nrm.next (i + 1) hlt (by omega) ?_
    unfold tlD
    exact (by repeat (first | exact Weak.nil | refine Weak.cons rfl (Sub.refl _) ?_ | refine Weak.cons rfl (Sub.heap (Ent.pickC [0, 2] rfl rfl)) ?_))
  refine J.exit ?_
  unfold tlD
  refine J.regroup (key := 1000) (spH τ S.mu S.ks S.v S.t ++ [obj ν (vList S.v)]) rfl (Ent.joinC (H1 := [_, _, _])) ?_
  refine J.frame (key := 1000) 3 rfl rfl fun hAa => ?_
  have hI2 := framed_I (β := ν) (cs := vList S.v) hI
  refine J.seq (J.loose2 [(2, aggV S.v)] [(22, .ex (ptr ν))] mixed hI2 rfl rfl rfl (by kernel_rfl) (by kernel_rfl) (by kernel_rfl) rfl rfl (fun ⟨_, _, h⟩ => h) (fun _ _ _ _ h => h) (by repeat (first | exact Weak.nil | refine Weak.cons rfl (Sub.refl _) ?_)) ?_ ?_)
  · exact Gives.cons [(22, .ex (ptr ν))] (by kernel_rfl) rfl (by kernel_rfl) (Plan.loadAggI (vs := vList S.v) rfl rfl rfl rfl (fun w h => framed_cell (off := 0) rfl w h) Tryz.underlying36 rfl (by kernel_rfl) (Plan.gives rfl)) Gives.nil
  repeat (refine Plan.move rfl rfl rfl rfl ?_)
  refine Plan.callR (key := 1000) (B := 0) (q := 0) rfl rfl rfl (vv_fn τ (.map S.mu) S.v S.t) Tryz.func19 rfl rfl (fun _ _ => Nat.zero_le _) (by repeat (first | exact Opnds.nil | refine Opnds.cons rfl (by exact Sub.refl _) ?_)) rfl rfl (by decide) ?_
  repeat (refine Plan.assign rfl rfl rfl rfl ?_)
  have hov : okV S.v := fun i hi => by have := hsp.right i hi; unfold in64; omega
  refine Plan.eqAgg (m := 9) (l := List.replicate 16 (.int .i64)) (xs := vList S.v) (ys := vList S.v) (r := true) (v := true) rfl rfl rfl rfl rfl (by decide) (by kernel_rfl) (by kernel_rfl) (by kernel_rfl) (vv_cells hov) (vv_cells hov) formedVV (by simp) (.inl ⟨rfl, rfl⟩) ?_
  repeat (refine Plan.assign rfl rfl rfl rfl ?_)
  exact J.ret (Nrm.ret1 rfl (fun w h => hw w h.1) rfl fun B _ => Sub.refl _)
end Go.Proofs.YtmljgobenlpnfaaGreat
end

section
namespace Go.Proofs.YtmljgobenlpnfaaGreat
open Go.Free Go.RowKit Go.Proofs Go.Free.Sorts
set_option maxHeartbeats 16000000
def tlA (w0 : World) (L : List EvV) (sy k a t : Int) (σ β γ : Nat) (x : Nat × List EvV × SpV × (Option Addr × Nat) × Nat × List UInt8 × Nat) : Env :=
  [(0, old w0 (row 26 (evsC L))), (1, .ex (.int .u64 sy)), (2, .ex (vi k)), (3, .ex (vi a)), (4, .ex (vi t)), (11, .ex (ptr σ)), (12, .ex (ptr β)), (13, .ex (ptr γ)), (15, .ex (.slice x.2.2.2.1.1 x.2.1.length x.2.2.2.1.2)), (69, .ex (vi L.length)), (70, .ex (vi x.1)),
   (1000, heap (newB w0) [spC σ x.2.2.1, logC γ β (lgM x.2.1) x.2.2.2.2.1, diskC β x.2.2.2.2.2.1 x.2.2.2.2.2.2 65536, rowEv x.2.2.2.1.1 x.2.1.length x.2.2.2.1.2 (evsC x.2.1)])]
theorem lawTop (L : List EvV) (hl : L.length ≤ 9223372036854775807) (hok : ∀ e ∈ L, e.okV) (sy : Int) (hsy : 0 ≤ sy ∧ sy ≤ 18446744073709551615) (k a t : Int) (hk : in64 k) (ha : in64 a) (ht : in64 t) :
    Spc Tryz.prog 3 [row 26 (evsC L), .ex (.int .u64 sy), .ex (vi k), .ex (vi a), .ex (vi t)] fun _ => .ex (.bool true) := by
  obtain ⟨sn, rfl⟩ : ∃ sn : Nat, sy = sn := ⟨sy.toNat, by omega⟩
  refine Spc.intro Tryz.func3 rfl (Nat.le_of_ble_eq_true rfl) fun w0 => ?_
  have hI := hIb w0
  have hA := Own.below w0
  refine J.heap0 1000 (newB w0) ?_
  refine J.seq (J.region mixed hI (by kernel_rfl) ?_)
  repeat (refine Plan.assign rfl rfl rfl rfl ?_)
  refine J.seq (J.region mixed hI (by kernel_rfl) ?_)
  refine Plan.callN (key := 1000) rfl rfl rfl (new_fn) Tryz.func4 rfl rfl (by intro _ e; cases e; decide) (by repeat (exact Opnds.nil)) rfl hA ?_
  intro σ _
  repeat (refine Plan.assign rfl rfl rfl rfl ?_)
  refine J.seq (J.region mixed hI (by kernel_rfl) ?_)
  refine Plan.callN (key := 1000) rfl rfl rfl (disk_New 65536) Tryz.func5 rfl rfl (by intro _ e; cases e; decide) (by repeat (first | exact Opnds.nil | refine Opnds.cons rfl (by exact Sub.refl _) ?_)) rfl hA ?_
  intro β _
  have hc : clampR 65536 = 65536 := by decide
  rw [hc]
  repeat (refine Plan.assign rfl rfl rfl rfl ?_)
  have ho := open_fn β [] 0 65536 (by simp)
  rw [open_nil] at ho
  refine J.seq (J.region mixed hI (by kernel_rfl) ?_)
  repeat (refine Plan.move rfl rfl rfl rfl ?_)
  refine Plan.callC (key := 1000) (q := 1) rfl rfl rfl (ho) Tryz.func6 rfl rfl (by intro _ e; cases e; decide) (by repeat (first | exact Opnds.nil | refine Opnds.cons rfl (by exact Sub.refl _) ?_)) rfl hA rfl ?_
  intro γ _
  repeat (first | refine Plan.move rfl rfl rfl rfl ?_ | refine Plan.assign rfl rfl rfl rfl ?_ | refine Plan.extract rfl rfl rfl rfl rfl ?_)
  refine J.regroup (key := 1000) [spC σ sp0, logC γ β log0 0, diskC β [] 0 65536] rfl (Ent.sep (Ent.refl _) Ent.one) ?_
  have hap0 := apply2 σ spok0 (by decide) ev0 ev0_ok
  have hz : codeS sp0.v ev0 = 1 ∧ ¬ readyP sp0.v ev0 := code_ev0
  rw [hz.1] at hap0
  refine J.seq (J.seq (J.region mixed hI (by kernel_rfl) ?_))
  repeat (first | refine Plan.move rfl rfl rfl rfl ?_ | refine Plan.pick rfl rfl rfl rfl rfl ?_ | (refine Plan.ints rfl rfl rfl rfl rfl rfl ?_; (skip)) | refine Plan.eqlPtr rfl rfl rfl rfl (by kernel_rfl) ?_)
  refine Plan.build rfl rfl rfl Parts.nil (cells := ev0.enc.toArray) (by kernel_rfl) ?_
  refine Plan.callC (key := 1000) (q := 0) rfl rfl rfl (hap0) Tryz.func7 rfl rfl (by intro _ e; cases e; decide) (by repeat (first | exact Opnds.nil | refine Opnds.cons rfl (by exact Sub.refl _) ?_)) rfl hA rfl ?_
  intro S0 hS0
  rw [if_neg hz.2] at hS0
  subst hS0
  repeat (first | refine Plan.move rfl rfl rfl rfl ?_ | refine Plan.pick rfl rfl rfl rfl rfl ?_ | (refine Plan.ints rfl rfl rfl rfl rfl rfl ?_; (skip)))
  refine Plan.lenRow (m := L.length) rfl rfl rfl rfl (Sub.old fun _ h => h) Tryz.underlying22 (by rw [evs_len]) (by decide) ?_
  repeat (first | refine Plan.pick rfl rfl rfl rfl rfl ?_ | (refine Plan.ints rfl rfl rfl rfl rfl rfl ?_; (skip)))
  refine J.condD rfl (fun hbig => ?_) (fun hbig => ?_)
  · refine J.seq (J.region mixed hI (by kernel_rfl) ?_)
    repeat (first | refine Plan.move rfl rfl rfl rfl ?_ | refine Plan.pick rfl rfl rfl rfl rfl ?_ | refine Plan.neqPtr rfl rfl rfl rfl (by kernel_rfl) ?_)
    refine Plan.build rfl rfl rfl Parts.nil (cells := ev0.enc.toArray) (by kernel_rfl) ?_
    refine Plan.callC (key := 1000) (q := 0) rfl rfl rfl (hap0) Tryz.func7 rfl rfl (by intro _ e; cases e; decide) (by repeat (first | exact Opnds.nil | refine Opnds.cons rfl (by exact Sub.refl _) ?_)) rfl hA rfl ?_
    intro S0 hS0
    repeat (first | refine Plan.assign rfl rfl rfl rfl ?_ | refine Plan.pick rfl rfl rfl rfl rfl ?_ | (refine Plan.ints rfl rfl rfl rfl rfl rfl ?_; (skip)))
    exact J.ret (Nrm.ret1 rfl (fun _ h => h) rfl fun B _ => Sub.refl _)
  have hL60 : L.length ≤ 60 := by omega
  refine J.skip ?_
  refine J.nilRow (key := 1000) 40 26 rfl ?_
  refine J.seq (J.region mixed hI (by kernel_rfl) ?_)
  repeat (refine Plan.assign rfl rfl rfl rfl ?_)
  refine J.seq (J.seq (J.region mixed hI (by kernel_rfl) ?_))
  repeat (refine Plan.move rfl rfl rfl rfl ?_)
  refine Plan.lenRow (m := L.length) rfl rfl rfl rfl (Sub.old fun _ h => h) Tryz.underlying22 (by rw [evs_len]) (by decide) ?_
  repeat (refine Plan.move rfl rfl rfl rfl ?_)
  refine J.block (J.loop (tlA w0 L sn k a t σ β γ) (fun x => x.1 ≤ L.length ∧ x.2.1.length ≤ x.1 ∧ SpOk x.2.1 x.2.2.1 ∧ LaidA (lgM x.2.1) x.2.2.2.2.1 x.2.2.2.2.2.1 x.2.2.2.2.2.2 ∧ x.2.2.2.2.2.1.length ≤ 707 * x.2.1.length) (fun x => L.length - x.1) (0, [], sp0, (none, 0), 0, [], 0) ⟨Nat.zero_le _, Nat.le_refl _, spok0, laid0, Nat.le_refl _⟩ ?_ ?_)
  · repeat (first | exact Weak.nil | refine Weak.cons rfl (Sub.refl _) ?_)
  rintro ⟨i, M, S, ⟨O, oc⟩, fl, lb, df⟩ ⟨hi, hMi, hsp, hla, hlb⟩
  simp only at hi hMi hsp hla hlb
  change J _ _ _ _ _ (tlA w0 L sn k a t σ β γ (i, M, S, (O, oc), fl, lb, df))
  refine J.seq (J.region mixed hI (by kernel_rfl) ?_)
  repeat ((refine Plan.ints rfl rfl rfl rfl rfl rfl ?_; (skip)))
  refine J.seq (J.condD rfl (fun hc => ?_) (fun hc => ?_))
  · have hlt : i < L.length := by
      first | omega | (dsimp only at hc; omega)
    obtain ⟨e, he⟩ : ∃ e, e = L[i] := ⟨_, rfl⟩
    have hgd : L.getD i ev0 = e := by rw [he]; exact getD_at hlt
    have heo : e.okV := by rw [he]; exact hok _ (List.getElem_mem hlt)
    have hap := apply2 σ hsp (by omega) e heo
    refine J.skip ?_
    refine J.seq (J.block ?_)
    refine J.seq (J.region mixed hI (by kernel_rfl) ?_)
    repeat (first | refine Plan.move rfl rfl rfl rfl ?_ | refine Plan.assign rfl rfl rfl rfl ?_)
    refine J.seq (J.region mixed hI (by kernel_rfl) ?_)
    repeat (refine Plan.move rfl rfl rfl rfl ?_)
    refine Plan.indexAddr EvV.enc 26 L ev0 rfl rfl rfl rfl (Sub.old fun _ h => h) rfl eltE encE (by omega) (by omega) ?_
    rw [Int.toNat_natCast, hgd]
    refine Plan.loadAggP rfl rfl rfl rfl (Sub.refl _) Tryz.underlying40 rfl (by rw [encE]; kernel_rfl) ?_
    by_cases hr : readyP S.v e
    case neg =>
      have hcd : codeS S.v e ≠ 0 := fun h => hr (code_ready.1 h)
      refine Plan.callC (key := 1000) (q := 0) rfl rfl rfl (hap) Tryz.func7 rfl rfl (by intro _ e; cases e; decide) (by repeat (first | exact Opnds.nil | refine Opnds.cons rfl (by exact Sub.refl _) ?_)) rfl hA rfl ?_
      intro S' hS'
      rw [if_neg hr] at hS'
      subst hS'
      repeat ((refine Plan.ints rfl rfl rfl rfl rfl rfl ?_; (skip)))
      refine Plan.boolv (y := false) (by simp [hcd]) ?_
      repeat (fail)
      refine J.condF rfl ?_
      refine J.skip ?_
      refine J.region mixed hI (by kernel_rfl) ?_
      repeat (first | refine Plan.move rfl rfl rfl rfl ?_ | (refine Plan.ints rfl rfl rfl rfl rfl rfl ?_; (refine Plan.int (i64r (by omega)) ?_)))
      refine Plan.int (y := ((i + 1 : Nat) : Int)) (by omega) ?_
      repeat (fail)
      exact Nrm.next (i + 1, M, S', (O, oc), fl, lb, df) ⟨hlt, by dsimp only; omega, hsp, hla, hlb⟩ (by dsimp only; omega) (by repeat (first | exact Weak.nil | refine Weak.cons rfl (Sub.refl _) ?_))
    case pos =>
    have hcd : codeS S.v e = 0 := code_ready.2 hr
    rw [hcd] at hap
    have hrt : rightP e := hr.1
    obtain ⟨hadd, hlb2⟩ := lg_add (M := M) (lb := lb) hrt (by omega) hlb
    refine Plan.callC (key := 1000) (q := 0) rfl rfl rfl (hap) Tryz.func7 rfl rfl (by intro _ e; cases e; decide) (by repeat (first | exact Opnds.nil | refine Opnds.cons rfl (by exact Sub.refl _) ?_)) rfl hA rfl ?_
    intro S' hS'
    rw [if_pos hr] at hS'
    repeat ((refine Plan.ints rfl rfl rfl rfl rfl rfl ?_; (skip)))
    refine J.condT rfl ?_
    have had := add_fn γ β (lgM M) fl lb df 65536 e heo (by dsimp only; omega) (by omega) (Nat.le_refl _)
    have hla2 := laid_add (r := 65536) hla e
    rw [hadd] at had hla2
    dsimp only at had hla2
    refine J.seq (J.seq (J.region mixed hI (by kernel_rfl) ?_))
    repeat (refine Plan.move rfl rfl rfl rfl ?_)
    refine Plan.indexAddr EvV.enc 26 L ev0 rfl rfl rfl rfl (Sub.old fun _ h => h) rfl eltE encE (by omega) (by omega) ?_
    rw [Int.toNat_natCast, hgd]
    refine Plan.loadAggP rfl rfl rfl rfl (Sub.refl _) Tryz.underlying40 rfl (by rw [encE]; kernel_rfl) ?_
    refine Plan.callL (key := 1000) [1, 2] [0, 3] rfl rfl rfl (had) Tryz.func8 rfl rfl (by intro _ e; cases e; decide) (by repeat (first | exact Opnds.nil | refine Opnds.cons rfl (by exact Sub.refl _) ?_)) rfl hA rfl rfl rfl ?_
    intro _ _
    repeat ((refine Plan.ints rfl rfl rfl rfl rfl rfl ?_; (skip)))
    refine J.condF rfl ?_
    refine J.skip ?_
    obtain ⟨lb2, hlb2e⟩ : ∃ lb2, lb2 = lb ++ evF e := ⟨_, rfl⟩
    rw [← hlb2e] at hla2 hlb2 ⊢
    refine J.regroup (key := 1000) [spC σ S', logC γ β (lgM (M ++ [e])) fl, diskC β lb2 df 65536, rowEv O M.length oc (evsC M)] rfl (Ent.pickC [2, 0, 1, 3] rfl rfl) ?_
    refine J.seq (J.region mixed hI (by kernel_rfl) ?_)
    repeat (refine Plan.move rfl rfl rfl rfl ?_)
    refine Plan.indexAddr EvV.enc 26 L ev0 rfl rfl rfl rfl (Sub.old fun _ h => h) rfl eltE encE (by omega) (by omega) ?_
    rw [Int.toNat_natCast, hgd]
    refine Plan.loadAggP rfl rfl rfl rfl (Sub.refl _) Tryz.underlying40 rfl (by rw [encE]; kernel_rfl) ?_
    refine Plan.lit (B := w0.heap.size) rfl rfl rfl eltE rfl (hBb w0) rfl (by simp [Value.cells, EvV.enc]) (by decide) ?_
    refine Plan.appendC (key := 1000) (q := 3) (news := evsC [e]) rfl rfl rfl rfl rfl (Sub.rowEq (by simp [evsC, flat, Value.cells]) Sub.own) eltE (by intro _ e; cases e; decide) rfl hA rfl (evs_one _) (by rw [evs_len, evs_len]; simp; omega) fun B' m' cap' hm' => ?_
    rw [← evs_app]
    obtain rfl : m' = (M ++ [e]).length := by
      rw [evs_len, evs_len] at hm'
      simp only [List.length_append, List.length_cons, List.length_nil] at hm' ⊢
      omega
    repeat (refine Plan.assign rfl rfl rfl rfl ?_)
    obtain ⟨M2, hM2⟩ : ∃ M2, M2 = M ++ [e] := ⟨_, rfl⟩
    have hM2l : M2.length = M.length + 1 := by rw [hM2]; simp
    rw [← hM2] at hS' hla2 hlb2 ⊢
    refine J.seq (J.region mixed hI (by kernel_rfl) ?_)
    repeat (first | refine Plan.move rfl rfl rfl rfl ?_ | refine Plan.lenE rfl rfl rfl rfl (by first | exact Tryz.underlying56 | exact Tryz.underlying22) ?_ | (refine Plan.ints rfl rfl rfl rfl rfl rfl ?_; (first | refine Plan.int (remN _ _) ?_ | skip)) | (refine Plan.convInt rfl rfl rfl rfl (by first | exact Tryz.underlying3 | exact Tryz.underlying148) (by exact Tryz.underlying3) ?_; (refine Plan.int (i64r (by omega)) ?_)))
    refine J.cond rfl (fun _ => ?_) (fun _ => ?_)
    · refine J.region mixed hI (by kernel_rfl) ?_
      repeat (refine Plan.move rfl rfl rfl rfl ?_)
      refine Plan.callL (key := 1000) [1, 2] [0, 3] rfl rfl rfl (log_Sync γ β (lgM M2) fl lb2 df 65536 (by dsimp only; omega)) Tryz.func9 rfl rfl (by intro _ e; cases e; decide) (by repeat (first | exact Opnds.nil | refine Opnds.cons rfl (by exact Sub.refl _) ?_)) rfl hA rfl rfl rfl ?_
      intro _ _
      repeat (fail)
      refine J.region mixed hI (by kernel_rfl) ?_
      repeat (first | refine Plan.move rfl rfl rfl rfl ?_ | (refine Plan.ints rfl rfl rfl rfl rfl rfl ?_; (refine Plan.int (i64r (by omega)) ?_)))
      refine Plan.int (y := ((i + 1 : Nat) : Int)) (by omega) ?_
      repeat (fail)
      exact Nrm.next (i + 1, M2, S', (B', cap'), M2.length, lb2, lb2.length) ⟨hlt, by dsimp only; omega, hS', laid_sync hla2, by dsimp only; omega⟩ (by dsimp only; omega) (by repeat (first | exact Weak.nil | refine Weak.cons rfl (Sub.refl _) ?_ | refine Weak.cons rfl (Sub.heap (Ent.pickC [2, 0, 1, 3] rfl rfl)) ?_))
    · refine J.skip ?_
      refine J.region mixed hI (by kernel_rfl) ?_
      repeat (first | refine Plan.move rfl rfl rfl rfl ?_ | (refine Plan.ints rfl rfl rfl rfl rfl rfl ?_; (refine Plan.int (i64r (by omega)) ?_)))
      refine Plan.int (y := ((i + 1 : Nat) : Int)) (by omega) ?_
      repeat (fail)
      exact Nrm.next (i + 1, M2, S', (B', cap'), fl, lb2, df) ⟨hlt, by dsimp only; omega, hS', hla2, by dsimp only; omega⟩ (by dsimp only; omega) (by repeat (first | exact Weak.nil | refine Weak.cons rfl (Sub.refl _) ?_))
  refine J.exit ?_
  have hM60 : M.length ≤ 60 := by omega
  refine J.weakW ?_ (topCrash w0 L k a t hk ha ht β γ M O oc fl lb df hM60 hla hlb hsp.ok fun w1 F j B c hw1 hj1 hj2 hrow =>
    topSees w0 w1 hw1 L (M.take j) (by rw [List.length_take]; omega) (chain_take hsp.chain j) (fun x hx => hsp.ok x (List.mem_of_mem_take hx)) B c F hrow fun τ ν S2 hS2 =>
      topTells w0 w1 hw1 L (M.take j) hL60 (by rw [List.length_take]; omega) (chain_take hsp.chain j) (fun x hx => hsp.ok x (List.mem_of_mem_take hx)) B c F hrow τ ν S2 hS2)
  unfold tlA
  exact (by repeat (first | exact Weak.nil | refine Weak.cons rfl (Sub.refl _) ?_ | refine Weak.cons rfl (Sub.heap (Ent.pickC [1, 2, 3] rfl rfl)) ?_))
theorem lawTopC (ls : List (List Value)) (sy k a t : Int) (hl : ls.length ≤ 9223372036854775807) (hcs : ∀ c ∈ ls, CellsOk kdsEvent c) (hsy : 0 ≤ sy ∧ sy ≤ 18446744073709551615) (hk : in64 k) (ha : in64 a) (ht : in64 t) :
    Spc Tryz.prog 3 [row 26 ls.flatten, .ex (.int .u64 sy), .ex (vi k), .ex (vi a), .ex (vi t)] fun _ => .ex (.bool true) := by
  obtain ⟨es, h1, h2, h3⟩ := evs_of ls hcs
  rw [h2]
  exact lawTop es (by omega) h3 sy hsy k a t hk ha ht
end Go.Proofs.YtmljgobenlpnfaaGreat
end
