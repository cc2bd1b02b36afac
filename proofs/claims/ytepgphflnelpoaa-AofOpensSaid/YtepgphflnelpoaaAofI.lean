/-
  Laid together: AofSame, AofOpens.
-/
import Derived.Test.YtepgphflnelpoaaAofH

section
set_option linter.unusedSimpArgs false
set_option linter.unusedVariables false
set_option maxRecDepth 20000
namespace Go.Proofs.Ytepgphflnelpoaa
open Go.Free Go.RowKit Go.Proofs
set_option maxHeartbeats 4000000

theorem formedEv (zs : Array Value) (h : zs.size = kdsEvent.length) : (Value.agg zs).formed Try.prog 48 = true := by
  have hc : Try.prog.cellsOf 48 = 26 := by kernel_rfl
  unfold Value.formed
  rw [Try.underlying48]
  simp only [hc, h]
  rfl
def saE (w0 : World) (L : List EvV) (i : Nat) : Env := [(0, old w0 (row 26 (evsC L))), (1, old w0 (row 26 (evsC L))), (12, .ex (vi L.length)), (13, .ex (vi i))]
theorem sameE_fn (L : List EvV) (hl : L.length ≤ 1000000) (hok : ∀ x ∈ L, x.okV) : Spc Try.prog 15 [row 26 (evsC L), row 26 (evsC L)] fun _ => .ex (.bool true) := by
  refine Spc.intro Try.func15 rfl (Nat.le_of_ble_eq_true rfl) fun w0 => ?_
  have hI := hIb w0
  repeat (first | refine Plan.move rfl rfl rfl rfl ?_ | refine Plan.assign rfl rfl rfl rfl ?_ | refine J.seq (J.region mixed hI (by kernel_rfl) ?_) | refine J.seq (J.seq (J.region mixed hI (by kernel_rfl) ?_)))
  refine Plan.lenRow (m := L.length) rfl rfl rfl rfl (Sub.old fun _ h => h) Try.underlying35 (by rw [evs_len]) (by decide) ?_
  repeat (refine Plan.move rfl rfl rfl rfl ?_)
  refine Plan.lenRow (m := L.length) rfl rfl rfl rfl (Sub.old fun _ h => h) Try.underlying35 (by rw [evs_len]) (by decide) ?_
  repeat ((refine Plan.ints rfl rfl rfl rfl rfl rfl ?_; (skip)))
  refine Plan.boolv (y := false) (by simp) ?_
  repeat (first | refine Plan.move rfl rfl rfl rfl ?_ | refine J.seq (J.seq (J.region mixed hI (by kernel_rfl) ?_)) | refine J.condF rfl ?_ | refine J.skip ?_)
  refine Plan.lenRow (m := L.length) rfl rfl rfl rfl (Sub.old fun _ h => h) Try.underlying35 (by rw [evs_len]) (by decide) ?_
  repeat (refine Plan.move rfl rfl rfl rfl ?_)
  refine J.block (J.loop (saE w0 L) (fun i => i ≤ L.length) (fun i => L.length - i) 0 (Nat.zero_le _) ?_ ?_)
  · repeat (first | exact Weak.nil | refine Weak.cons rfl (Sub.refl _) ?_)
  intro i hi
  repeat (first | (refine Plan.ints rfl rfl rfl rfl rfl rfl ?_; (skip)) | refine J.seq (J.region mixed hI (by kernel_rfl) ?_))
  refine J.seq (J.condD rfl (fun hc => ?_) (fun hc => ?_))
  · have hlt : i < L.length := by omega
    have hx : L[i]? = some L[i] := List.getElem?_eq_getElem hlt
    have hgd : L.getD i ev0 = L[i] := by rw [List.getD_eq_getElem?_getD, hx]; rfl
    have hki := hok _ (List.getElem_mem hlt)
    repeat (refine J.skip ?_)
    refine J.seq (J.block ?_)
    repeat (first | refine Plan.move rfl rfl rfl rfl ?_ | refine Plan.assign rfl rfl rfl rfl ?_ | refine J.seq (J.region mixed hI (by kernel_rfl) ?_))
    refine Plan.indexAddr EvV.enc 26 L ev0 rfl rfl rfl rfl (Sub.old fun _ h => h) rfl eltE encE (by omega) (by omega) ?_
    rw [Int.toNat_natCast, hgd]
    refine Plan.loadAggP rfl rfl rfl rfl (Sub.refl _) Try.underlying48 rfl (by rw [encE]; kernel_rfl) ?_
    repeat (refine Plan.move rfl rfl rfl rfl ?_)
    refine Plan.indexAddr EvV.enc 26 L ev0 rfl rfl rfl rfl (Sub.old fun _ h => h) rfl eltE encE (by omega) (by omega) ?_
    rw [Int.toNat_natCast, hgd]
    refine Plan.loadAggP rfl rfl rfl rfl (Sub.refl _) Try.underlying48 rfl (by rw [encE]; kernel_rfl) ?_
    refine Plan.eqAgg (m := 9) (l := kdsEvent) (xs := L[i].enc) (ys := L[i].enc) (r := true) (v := false) rfl rfl rfl rfl rfl (by decide) (by kernel_rfl) (by kernel_rfl) (by kernel_rfl) (enc_ok hki) (enc_ok hki) formedEv (by simp) (.inr ⟨rfl, rfl⟩) ?_
    repeat (first | refine Plan.move rfl rfl rfl rfl ?_ | (refine Plan.ints rfl rfl rfl rfl rfl rfl ?_; (refine Plan.int (i64r (by omega)) ?_)) | refine J.region mixed hI (by kernel_rfl) ?_ | refine J.condF rfl ?_ | refine J.skip ?_)
    refine Plan.int (y := ((i + 1 : Nat) : Int)) (by omega) ?_
    repeat (fail)
    exact Nrm.next (i + 1) (by omega) (by omega) (by repeat (first | exact Weak.nil | refine Weak.cons rfl (Sub.refl _) ?_))
  refine J.exit ?_
  repeat (first | refine Plan.assign rfl rfl rfl rfl ?_ | refine J.seq (J.region mixed hI (by kernel_rfl) ?_))
  exact J.ret (Nrm.ret1 rfl (fun _ h => h) rfl fun B _ => Sub.refl _)

def evK : EvV := ⟨0, 1, 0, fun _ => 0, 11, [107], [], [], 0, 0, 0⟩
theorem evK_ok : evK.okV := by refine ⟨?_, ?_, ?_, fun i _ => ?_, ?_, ?_, ?_, ?_, ?_, ?_, ?_⟩ <;> simp [evK, in64]
theorem evK_right : rightP evK := by
  refine ⟨by decide, by decide, by decide, fun i _ => by simp [evK], by decide, by decide, by decide⟩
theorem small_num {u : Nat} (h : u < 128) : num u = [UInt8.ofNat u] := by
  unfold num; rw [Nat.div_eq_of_lt h, numHi_zero, lastD, Nat.mod_eq_of_lt h]; rfl
theorem evK_enc : encB evK = [0, 1, 0, 0, 0, 0, 0, 0, 0, 0, 0, 0, 0, 0, 0, 0, 0, 0, 0, 11, 1, 107] := by
  simp [encB, encB4, encB3, encB2, encB1, fieldP, valueP, numP, refP, evK, nums, encNs, numI, txt, small_num]
theorem evK_len : (evF evK).length = 29 := by unfold evF; rw [fPut_length, evK_enc]; rfl
theorem awakeL_fn : Spc Try.prog 9 [] fun _ => .ex (.bool true) := by
  refine Spc.intro Try.func9 rfl (Nat.le_of_ble_eq_true rfl) fun w0 => ?_
  have hI := hIb w0
  have hA := Own.below w0
  have hbg := begun_fn 200
  have hc : clampR 200 = 200 := by decide
  rw [hc] at hbg
  have hadd : addM log0 [] 200 evK = (⟨[], false, [evK]⟩, evF evK, 0) := by
    unfold addM
    rw [if_pos evK_right, if_pos (by rw [evK_len]; decide)]
    rfl
  refine J.heap0 1000 (newB w0) ?_
  repeat (first | refine Plan.assign rfl rfl rfl rfl ?_ | refine J.seq (J.region mixed hI (by kernel_rfl) ?_))
  refine Plan.callN (key := 1000) rfl rfl rfl (hbg) Try.func17 rfl rfl (by intro _ e; cases e; decide) (by repeat (first | exact Opnds.nil | refine Opnds.cons rfl (by exact Sub.refl _) ?_)) rfl hA ?_
  rintro ⟨γ, β⟩ _
  repeat (first | refine Plan.move rfl rfl rfl rfl ?_ | refine Plan.assign rfl rfl rfl rfl ?_ | refine Plan.extract rfl rfl rfl rfl rfl ?_)
  refine J.open1 (key := 1000) rfl ?_
  repeat (first | refine Plan.move rfl rfl rfl rfl ?_ | refine Plan.pick rfl rfl rfl rfl rfl ?_ | refine Plan.eqlPtr rfl rfl rfl rfl (by kernel_rfl) ?_ | refine J.seq (J.seq (J.region mixed hI (by kernel_rfl) ?_)))
  refine Plan.callR (key := 1000) (B := 0) (q := 1) rfl rfl rfl (disk_Room β [] 0 200) Try.func31 rfl rfl (fun _ _ => Nat.zero_le _) (by repeat (first | exact Opnds.nil | refine Opnds.cons rfl (by exact Sub.refl _) ?_)) rfl rfl (by decide) ?_
  repeat (first | refine Plan.move rfl rfl rfl rfl ?_ | refine Plan.pick rfl rfl rfl rfl rfl ?_ | (refine Plan.ints rfl rfl rfl rfl rfl rfl ?_; (skip)) | refine J.seq (J.region mixed hI (by kernel_rfl) ?_) | refine J.condF rfl ?_ | refine J.skip ?_)
  refine Plan.build (cells := #[vi 0, vi 1]) rfl rfl (ps := [(1, _)]) rfl (Parts.cons rfl Parts.nil) (by kernel_rfl) ?_
  refine Plan.build (cells := evK.op.toArray) rfl rfl (ps := [(0, _), (1, _)]) rfl (Parts.cons rfl (Parts.cons rfl Parts.nil)) (by kernel_rfl) ?_
  refine Plan.build (cells := evK.enc.toArray) rfl rfl (ps := [(0, _), (3, _)]) rfl (Parts.cons rfl (Parts.cons rfl Parts.nil)) (by kernel_rfl) ?_
  have had := add_fn γ β log0 0 [] 0 200 evK evK_ok (by decide) (by decide) (by decide)
  rw [hadd] at had
  refine Plan.callL (key := 1000) [0, 1] [] rfl rfl rfl (had) Try.func21 rfl rfl (by intro _ e; cases e; decide) (by repeat (first | exact Opnds.nil | refine Opnds.cons rfl (by exact Sub.refl _) ?_)) rfl hA rfl rfl rfl ?_
  intro _ _
  repeat (first | refine Plan.move rfl rfl rfl rfl ?_ | refine Plan.assign rfl rfl rfl rfl ?_ | (refine Plan.ints rfl rfl rfl rfl rfl rfl ?_; (skip)) | refine J.seq (J.region mixed hI (by kernel_rfl) ?_))
  refine Plan.callR (key := 1000) (B := 0) (q := 0) rfl rfl rfl (log_Events γ β ⟨[], false, [evK]⟩ 0 (by decide)) Try.func16 rfl rfl (fun _ _ => Nat.zero_le _) (by repeat (first | exact Opnds.nil | refine Opnds.cons rfl (by exact Sub.refl _) ?_)) rfl rfl (by decide) ?_
  refine Plan.lenRow (m := 1) rfl rfl rfl rfl Sub.own Try.underlying35 (by rw [evs_len]; rfl) (by decide) ?_
  repeat (first | refine Plan.move rfl rfl rfl rfl ?_ | refine Plan.pick rfl rfl rfl rfl rfl ?_ | (refine Plan.ints rfl rfl rfl rfl rfl rfl ?_; (skip)))
  refine Plan.callR (key := 1000) (B := 0) (q := 1) rfl rfl rfl (disk_Bytes β (evF evK) 0 200 (by rw [evK_len]; decide)) Try.func13 rfl rfl (fun _ _ => Nat.zero_le _) (by repeat (first | exact Opnds.nil | refine Opnds.cons rfl (by exact Sub.refl _) ?_)) rfl rfl (by decide) ?_
  refine Plan.lenB rfl rfl rfl rfl Sub.own Try.underlying27 ?_
  rw [evK_len]
  repeat (first | refine Plan.assign rfl rfl rfl rfl ?_ | refine Plan.pick rfl rfl rfl rfl rfl ?_ | (refine Plan.ints rfl rfl rfl rfl rfl rfl ?_; (skip)))
  exact J.ret (Nrm.ret1 rfl (fun _ h => h) rfl fun B _ => Sub.refl _)
end Go.Proofs.Ytepgphflnelpoaa
end

section
set_option linter.unusedSimpArgs false
set_option linter.unusedVariables false
set_option maxRecDepth 20000
namespace Go.Proofs.Ytepgphflnelpoaa
open Go.Free Go.RowKit Go.Proofs
set_option maxHeartbeats 4000000

theorem takes_ok : ∀ (bs : List (List UInt8)) (f : Bool) (m : LogV) (p : Nat), (∀ x ∈ m.l, x.okV) → ∀ x ∈ (takesM bs f m p).1.l, x.okV
  | [], f, m, p, h => h
  | b :: r, f, m, p, h => by
    cases ht : takeM m b f with
    | none => rw [takes_none ht]; exact h
    | some m' =>
      rw [takes_some ht]
      refine takes_ok r false m' _ ?_
      cases b with
      | nil => cases ht
      | cons x r =>
        unfold takeM at ht
        simp only at ht
        split at ht
        · cases ht; exact h
        · split at ht
          · cases ht
            intro y hy
            rcases List.mem_append.1 hy with hy | hy
            · exact h y hy
            · rw [List.mem_singleton.1 hy]; exact decR_ok r
          · cases ht
theorem open_ok (l : List UInt8) : ∀ x ∈ (openM l).1.l, x.okV := takes_ok _ _ _ _ fun x hx => by cases hx
theorem lawOpens (b : List UInt8) (hb : b.length ≤ 9223372036854775807) : Spc Try.prog 3 [.ex (str b)] fun _ => .ex (.bool true) := by
  refine Spc.intro Try.func3 rfl (Nat.le_of_ble_eq_true rfl) fun w0 => ?_
  have hI := hIb w0
  have hA := Own.below w0
  have hnew := disk_New 65536
  have hc : clampR 65536 = 65536 := by decide
  rw [hc] at hnew
  refine J.heap0 1000 (newB w0) ?_
  repeat (first | refine Plan.assign rfl rfl rfl rfl ?_ | refine J.seq (J.region mixed hI (by kernel_rfl) ?_) | refine J.seq (J.seq (J.region mixed hI (by kernel_rfl) ?_)))
  refine Plan.call (B := w0.heap.size) rfl rfl rfl (awakeL_fn) Try.func9 rfl rfl (hBb w0) (by repeat (exact Opnds.nil)) ?_
  repeat (first | refine Plan.move rfl rfl rfl rfl ?_ | refine Plan.pick rfl rfl rfl rfl rfl ?_ | refine Plan.lenStr rfl rfl rfl rfl Try.underlying9 ?_ | (refine Plan.ints rfl rfl rfl rfl rfl rfl ?_; (skip)) | refine Plan.un rfl rfl rfl rfl rfl ?_)
  refine J.condD rfl (fun h => ?_) (fun h => ?_)
  · repeat (refine J.seq (J.region mixed hI (by kernel_rfl) ?_))
    refine Plan.call (B := w0.heap.size) rfl rfl rfl (awakeL_fn) Try.func9 rfl rfl (hBb w0) (by repeat (exact Opnds.nil)) ?_
    repeat (refine Plan.assign rfl rfl rfl rfl ?_)
    exact J.ret (Nrm.ret1 rfl (fun _ h => h) rfl fun B _ => Sub.refl _)
  have hbl : b.length ≤ 20000 := by omega
  have h1 := (open_again b).1
  have h2 := (open_again b).2
  have h3 := open_len b
  have h4 := open_ok b
  have hop := fun β => open_fn β b b.length 65536 (by omega)
  have hop2 := fun β f => open_fn β (b.take (openM b).2) f 65536 (by rw [List.length_take]; omega)
  rw [h2] at hop2
  generalize openM b = o at *
  obtain ⟨m, n⟩ := o
  dsimp only at *
  have htl : (b.take n).length = n := by rw [List.length_take]; omega
  have htt : (b.take n).take n = b.take n := by rw [List.take_take, Nat.min_self]
  have hre := fun β => disk_Replace β [] 0 65536 b (by omega) (by omega)
  rw [if_pos (by omega)] at hre
  simp only [if_pos (show b.length ≤ 65536 by omega)] at hre
  simp only [htt, htl, if_neg (Nat.lt_irrefl n)] at hop2
  generalize hfd : (if n < b.length then n else b.length) = fd at hop
  repeat (first | refine J.seq (J.region mixed hI (by kernel_rfl) ?_) | refine J.skip ?_)
  refine Plan.callN (key := 1000) rfl rfl rfl (hnew) Try.func10 rfl rfl (by intro _ e; cases e; decide) (by repeat (first | exact Opnds.nil | refine Opnds.cons rfl (by exact Sub.refl _) ?_)) rfl hA ?_
  intro β _
  repeat (first | refine Plan.move rfl rfl rfl rfl ?_ | refine Plan.assign rfl rfl rfl rfl ?_ | refine Plan.eqlPtr rfl rfl rfl rfl (by kernel_rfl) ?_ | refine J.seq (J.seq (J.region mixed hI (by kernel_rfl) ?_)))
  refine Plan.convSB rfl rfl rfl rfl Try.underlying9 Try.underlying27 Try.underlying5 (by omega) ?_
  refine Plan.callC (key := 1000) (q := 0) rfl rfl rfl (hre β) Try.func11 rfl rfl (by intro _ e; cases e; decide) (by repeat (first | exact Opnds.nil | refine Opnds.cons rfl (by exact Sub.refl _) ?_)) rfl hA rfl ?_
  intro _ _
  repeat (first | refine Plan.move rfl rfl rfl rfl ?_ | refine Plan.pick rfl rfl rfl rfl rfl ?_ | (refine Plan.ints rfl rfl rfl rfl rfl rfl ?_; (skip)) | refine J.seq (J.region mixed hI (by kernel_rfl) ?_) | refine J.condF rfl ?_ | refine J.skip ?_)
  refine Plan.callC (key := 1000) (q := 0) rfl rfl rfl (hop β) Try.func12 rfl rfl (by intro _ e; cases e; decide) (by repeat (first | exact Opnds.nil | refine Opnds.cons rfl (by exact Sub.refl _) ?_)) rfl hA rfl ?_
  intro γ _
  repeat (first | refine Plan.move rfl rfl rfl rfl ?_ | refine Plan.assign rfl rfl rfl rfl ?_ | refine Plan.extract rfl rfl rfl rfl rfl ?_)
  refine J.open1 (key := 1000) rfl ?_
  repeat (first | refine Plan.move rfl rfl rfl rfl ?_ | refine Plan.pick rfl rfl rfl rfl rfl ?_ | (refine Plan.ints rfl rfl rfl rfl rfl rfl ?_; (skip)) | refine Plan.eqlPtr rfl rfl rfl rfl (by kernel_rfl) ?_ | refine J.seq (J.region mixed hI (by kernel_rfl) ?_) | refine J.seq (J.seq (J.region mixed hI (by kernel_rfl) ?_)) | refine J.condF rfl ?_ | refine J.skip ?_)
  refine Plan.callR (key := 1000) (B := 0) (q := 1) rfl rfl rfl (disk_Bytes β (b.take n) fd 65536 (by omega)) Try.func13 rfl rfl (fun _ _ => Nat.zero_le _) (by repeat (first | exact Opnds.nil | refine Opnds.cons rfl (by exact Sub.refl _) ?_)) rfl rfl (by decide) ?_
  refine Plan.convBS (p := b.take n) rfl rfl rfl rfl Sub.own Try.underlying27 Try.underlying9 Try.underlying5 ?_
  repeat (first | refine Plan.move rfl rfl rfl rfl ?_ | refine Plan.assign rfl rfl rfl rfl ?_ | refine Plan.lenStr rfl rfl rfl rfl Try.underlying9 ?_ | (refine Plan.ints rfl rfl rfl rfl rfl rfl ?_; (skip)) | refine J.seq (J.seq (J.region mixed hI (by kernel_rfl) ?_)))
  refine Plan.boolv (y := false) (by simp only [decide_eq_false_iff_not]; omega) ?_
  repeat (first | refine Plan.move rfl rfl rfl rfl ?_ | refine Plan.lenStr rfl rfl rfl rfl Try.underlying9 ?_)
  refine Plan.sliceStr (a0 := 0) (b0 := (b.take n).length) rfl rfl rfl rfl Try.underlying9 (.inl ⟨rfl, rfl⟩) (.inr ⟨_, _, rfl, rfl⟩) (Nat.zero_le _) (by omega) ?_
  rw [htl, List.drop_zero]
  repeat (refine Plan.move rfl rfl rfl rfl ?_)
  refine Plan.strs rfl rfl rfl rfl rfl rfl ?_
  refine Plan.boolv (y := false) (by simp) ?_
  repeat (first | refine Plan.move rfl rfl rfl rfl ?_ | refine Plan.pick rfl rfl rfl rfl rfl ?_ | refine J.seq (J.region mixed hI (by kernel_rfl) ?_) | refine J.condF rfl ?_ | refine J.skip ?_)
  refine Plan.callC (key := 1000) (q := 1) rfl rfl rfl (hop2 β fd) Try.func12 rfl rfl (by intro _ e; cases e; decide) (by repeat (first | exact Opnds.nil | refine Opnds.cons rfl (by exact Sub.refl _) ?_)) rfl hA rfl ?_
  intro δ _
  repeat (first | refine Plan.move rfl rfl rfl rfl ?_ | refine Plan.assign rfl rfl rfl rfl ?_ | refine Plan.extract rfl rfl rfl rfl rfl ?_)
  refine J.regroup (key := 1000) [logC γ β m m.l.length, logC δ β m m.l.length, diskC β (b.take n) fd 65536] rfl (Ent.sep (Ent.refl _) Ent.one) ?_
  repeat (first | refine Plan.move rfl rfl rfl rfl ?_ | refine Plan.pick rfl rfl rfl rfl rfl ?_ | (refine Plan.ints rfl rfl rfl rfl rfl rfl ?_; (skip)) | refine Plan.eqlPtr rfl rfl rfl rfl (by kernel_rfl) ?_ | refine J.seq (J.region mixed hI (by kernel_rfl) ?_) | refine J.seq (J.seq (J.region mixed hI (by kernel_rfl) ?_)) | refine J.condF rfl ?_ | refine J.skip ?_)
  refine Plan.callR (key := 1000) (B := 0) (q := 0) rfl rfl rfl (log_Snapshot γ β m m.l.length) Try.func14 rfl rfl (fun _ _ => Nat.zero_le _) (by repeat (first | exact Opnds.nil | refine Opnds.cons rfl (by exact Sub.refl _) ?_)) rfl rfl (by decide) ?_
  repeat (first | refine Plan.move rfl rfl rfl rfl ?_ | refine Plan.assign rfl rfl rfl rfl ?_ | refine Plan.extract rfl rfl rfl rfl rfl ?_ | refine J.seq (J.region mixed hI (by kernel_rfl) ?_))
  refine Plan.callR (key := 1000) (B := 0) (q := 1) rfl rfl rfl (log_Snapshot δ β m m.l.length) Try.func14 rfl rfl (fun _ _ => Nat.zero_le _) (by repeat (first | exact Opnds.nil | refine Opnds.cons rfl (by exact Sub.refl _) ?_)) rfl rfl (by decide) ?_
  repeat (first | refine Plan.move rfl rfl rfl rfl ?_ | refine Plan.assign rfl rfl rfl rfl ?_ | refine Plan.extract rfl rfl rfl rfl rfl ?_ | refine J.seq (J.region mixed hI (by kernel_rfl) ?_))
  refine Plan.callR (key := 1000) (B := 0) (q := 2) rfl rfl rfl (disk_Bytes β (b.take n) fd 65536 (by omega)) Try.func13 rfl rfl (fun _ _ => Nat.zero_le _) (by repeat (first | exact Opnds.nil | refine Opnds.cons rfl (by exact Sub.refl _) ?_)) rfl rfl (by decide) ?_
  refine Plan.convBS (p := b.take n) rfl rfl rfl rfl Sub.own Try.underlying27 Try.underlying9 Try.underlying5 ?_
  repeat (refine Plan.move rfl rfl rfl rfl ?_)
  refine Plan.strs rfl rfl rfl rfl rfl rfl ?_
  refine Plan.boolv (y := true) (by simp) ?_
  repeat (refine Plan.move rfl rfl rfl rfl ?_)
  refine Plan.callR (key := 1000) (B := 0) (q := 0) rfl rfl rfl (log_Events γ β m m.l.length (by omega)) Try.func16 rfl rfl (fun _ _ => Nat.zero_le _) (by repeat (first | exact Opnds.nil | refine Opnds.cons rfl (by exact Sub.refl _) ?_)) rfl rfl (by decide) ?_
  repeat (refine Plan.move rfl rfl rfl rfl ?_)
  refine Plan.callR (key := 1000) (B := 0) (q := 1) rfl rfl rfl (log_Events δ β m m.l.length (by omega)) Try.func16 rfl rfl (fun _ _ => Nat.zero_le _) (by repeat (first | exact Opnds.nil | refine Opnds.cons rfl (by exact Sub.refl _) ?_)) rfl rfl (by decide) ?_
  refine Plan.call (B := w0.heap.size) rfl rfl rfl (sameE_fn m.l (by omega) h4) Try.func15 rfl rfl (hBb w0) (by repeat (first | exact Opnds.nil | refine Opnds.cons rfl (by exact Sub.own) ?_)) ?_
  repeat (first | refine Plan.move rfl rfl rfl rfl ?_ | refine Plan.pick rfl rfl rfl rfl rfl ?_)
  refine Plan.strs rfl rfl rfl rfl rfl rfl ?_
  refine Plan.boolv (y := true) (by simp) ?_
  repeat (first | refine Plan.move rfl rfl rfl rfl ?_ | refine Plan.pick rfl rfl rfl rfl rfl ?_)
  refine Plan.bools rfl rfl rfl rfl rfl Try.underlying4 (.inl ⟨rfl, rfl⟩) ?_
  refine Plan.boolv (y := true) (by simp) ?_
  repeat (first | refine Plan.assign rfl rfl rfl rfl ?_ | refine Plan.pick rfl rfl rfl rfl rfl ?_)
  exact J.ret (Nrm.ret1 rfl (fun _ h => h) rfl fun B _ => Sub.refl _)
end Go.Proofs.Ytepgphflnelpoaa
end
