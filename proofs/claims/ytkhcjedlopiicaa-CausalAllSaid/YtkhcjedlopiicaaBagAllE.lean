/-
  Bags of api.Event: all of their functions.
-/
import Derived.Test.YtkhcjedlopiicaaBagBase
import Derived.Test.YtkhcjedlopiicaaFreeSlices2
import Derived.Test.YtkhcjedlopiicaaFreeOwn
import Derived.Test.YtkhcjedlopiicaaEvFns2
import Derived.Test.YtkhcjedlopiicaaFreeOwn2
import Derived.Test.YtkhcjedlopiicaaFreePick
import Derived.Test.YtkhcjedlopiicaaBagPlain
set_option linter.unusedSimpArgs false
set_option linter.unusedVariables false
set_option maxRecDepth 20000
namespace Go.Proofs.Ytkhcjedlopiicaa
open Go.Free Go.RowKit Go.Proofs
set_option maxHeartbeats 4000000

abbrev itE (x : Dt × EvV) : List Value := itC EvV.enc x
theorem itLE (x : Dt × EvV) : (itE x).length = 28 := rfl
abbrev it0E : Dt × EvV := ((0, 0), ev0)
theorem eltItE : Elt Try.prog 76 134 (.agg (itE it0E).toArray) 28 248 := Elt.mk' Try.underlying76 (by kernel_rfl) rfl (by decide) (by decide)
theorem cmpAt_fnE (x : Dt × EvV) (d : Dt) : Spc Try.prog 99 [.ex (.agg (itE x).toArray), .ex (aggD d.1 d.2)] fun _ => .ex (vi (cmpD x.1 d)) := by
  refine Spc.intro Try.func99 rfl (Nat.le_of_ble_eq_true rfl) fun w0 => ?_
  have hI := hIb w0
  have hA := Own.below w0
  refine J.heap0 1000 (newB w0) ?_
  repeat (refine J.seq (J.region mixed hI (by kernel_rfl) ?_))
  refine Plan.boxC (key := 1000) rfl rfl rfl (by intro _ e; cases e; decide) rfl rfl hA fun β => ?_
  refine Plan.boxC (key := 1000) rfl rfl rfl (by intro _ e; cases e; decide) rfl rfl hA fun γ => ?_
  repeat (first | refine Plan.assign rfl rfl rfl rfl ?_ | refine Plan.fieldC rfl rfl rfl rfl (by first | exact Try.underlying86 | exact Try.underlying28 | exact Try.underlying134) rfl (by kernel_rfl) (by exact (rfl : _ = 0)) ?_ | refine Plan.loadC (key := 1000) (q := 0) rfl rfl rfl rfl rfl rfl (obj_reads1 rfl) (by exact Try.underlying3) (by rfl) (by decide) ?_ | refine Plan.loadC (key := 1000) (q := 1) rfl rfl rfl rfl rfl rfl (obj_reads1 rfl) (by exact Try.underlying3) (by rfl) (by decide) ?_ | refine J.seq (J.region mixed hI (by kernel_rfl) ?_))
  refine Plan.call (B := w0.heap.size) rfl rfl rfl (compare_fn x.1.1 d.1) Try.func72 rfl rfl (hBb w0) (by repeat (first | exact Opnds.nil | refine Opnds.cons rfl (by exact Sub.refl _) ?_)) ?_
  repeat (first | refine Plan.fieldC rfl rfl rfl rfl (by first | exact Try.underlying86 | exact Try.underlying28 | exact Try.underlying134) rfl (by kernel_rfl) (by first | exact (rfl : _ = 0) | exact (rfl : _ = 1)) ?_ | refine Plan.loadC (key := 1000) (q := 0) rfl rfl rfl rfl rfl rfl (obj_reads1 rfl) (by exact Try.underlying3) (by rfl) (by decide) ?_ | refine Plan.loadC (key := 1000) (q := 1) rfl rfl rfl rfl rfl rfl (obj_reads1 rfl) (by exact Try.underlying3) (by rfl) (by decide) ?_)
  refine Plan.call (B := w0.heap.size) rfl rfl rfl (compare_fn x.1.2 d.2) Try.func72 rfl rfl (hBb w0) (by repeat (first | exact Opnds.nil | refine Opnds.cons rfl (by exact Sub.refl _) ?_)) ?_
  refine Plan.lit (B := w0.heap.size) rfl rfl rfl eltI rfl (hBb w0) rfl (by simp [Value.cells]) (by decide) ?_
  refine Plan.call (B := w0.heap.size) rfl rfl rfl (or_fn [cmp3 x.1.1 d.1, cmp3 x.1.2 d.2] (by simp)) Try.func71 rfl rfl (hBb w0) (by repeat (first | exact Opnds.nil | refine Opnds.cons rfl (by exact Sub.own) ?_)) ?_
  repeat (refine Plan.assign rfl rfl rfl rfl ?_)
  exact J.ret (Nrm.ret1 rfl (fun _ h => h) rfl fun B _ => Sub.refl _)
def fdEE (w0 : World) (l : List (Dt × EvV)) (d : Dt) (γ : Nat) (s : Nat × Nat) : Env :=
  [(0, .old w0 (row 28 (l.flatMap itE))), (2, .ex (.func (.func 99) #[] #[])), (4, .ex (ptr γ)), (8, .ex (vi l.length)), (9, .ex (vi s.1)), (10, .ex (vi s.2)), (1000, heap (newB w0) [obj γ [vi d.1, vi d.2]])]
theorem find_fnE (l : List (Dt × EvV)) (hs : sortedD l) (hl : l.length ≤ 1000000) (d : Dt) :
    Spc Try.prog 98 [row 28 (l.flatMap itE), .ex (aggD d.1 d.2), .ex (.func (.func 99) #[] #[])] fun _ => .tup [.ex (vi (posD l d)), .ex (.bool (hereD l d))] := by
  refine Spc.intro Try.func98 rfl (Nat.le_of_ble_eq_true rfl) fun w0 => ?_
  have hI := hIb w0
  have hA := Own.below w0
  refine J.heap0 1000 (newB w0) ?_
  repeat (refine J.seq (J.region mixed hI (by kernel_rfl) ?_))
  refine Plan.boxC (key := 1000) rfl rfl rfl (by intro _ e; cases e; decide) rfl rfl hA fun γ => ?_
  repeat (first | refine Plan.move rfl rfl rfl rfl ?_ | refine Plan.assign rfl rfl rfl rfl ?_ | refine J.seq (J.region mixed hI (by kernel_rfl) ?_))
  refine Plan.lenRow (m := l.length) rfl rfl rfl rfl (Sub.old fun _ h => h) Try.underlying76 (by rw [flatMap_length _ 28 itLE]) (by decide) ?_
  repeat (first | refine Plan.move rfl rfl rfl rfl ?_ | refine Plan.assign rfl rfl rfl rfl ?_ | refine J.seq (J.region mixed hI (by kernel_rfl) ?_))
  refine J.seq (J.block (J.loop (fdEE w0 l d γ) (fun s => s.1 ≤ s.2 ∧ s.2 ≤ l.length ∧ (∀ k x, l[k]? = some x → k < s.1 → dlt x.1 d) ∧ ∀ k x, l[k]? = some x → s.2 ≤ k → ¬ dlt x.1 d) (fun s => s.2 - s.1) (0, l.length) ⟨Nat.zero_le _, Nat.le_refl _, fun k x _ h => by simp at h, fun k x hx h => by have := (List.getElem?_eq_some_iff.1 hx).1; simp only at h; omega⟩ ?_ ?_))
  · repeat (first | exact Weak.nil | refine Weak.cons rfl (Sub.refl _) ?_)
  rintro ⟨i, j⟩ ⟨hij, hj, hlo, hhi⟩
  simp only at hij hj hlo hhi
  repeat (first | refine Plan.move rfl rfl rfl rfl ?_ | (refine Plan.ints rfl rfl rfl rfl rfl rfl ?_; (skip)) | refine J.seq (J.seq (J.region mixed hI (by kernel_rfl) ?_)))
  refine J.condD rfl (fun hc => ?_) (fun hc => ?_)
  · have hc' : i < j := by omega
    obtain ⟨h, hh⟩ : ∃ h, h = (i + j) / 2 := ⟨_, rfl⟩
    have hhl : h < l.length := by omega
    have hx : l[h]? = some l[h] := List.getElem?_eq_getElem hhl
    have hgd : l.getD h it0E = l[h] := by rw [List.getD_eq_getElem?_getD, hx]; rfl
    repeat (refine J.skip ?_)
    refine J.block ?_
    repeat (first | refine Plan.move rfl rfl rfl rfl ?_ | (refine Plan.ints rfl rfl rfl rfl rfl rfl ?_; (refine Plan.int (i64r (by omega)) ?_)) | (refine Plan.convInt rfl rfl rfl rfl (by exact Try.underlying3) (by first | exact Try.underlying3 | exact Try.underlying94) ?_; (refine Plan.int (u64r (by omega)) ?_)) | refine J.seq (J.region mixed hI (by kernel_rfl) ?_))
    refine Plan.int (y := ((i + j : Nat) : Int)) (by omega) ?_
    refine Plan.shrN (q := 1) rfl rfl rfl rfl rfl (by decide) ?_
    rw [show (i + j) / 2 ^ 1 = h by rw [hh]]
    repeat (first | refine Plan.move rfl rfl rfl rfl ?_ | refine Plan.assign rfl rfl rfl rfl ?_ | (refine Plan.convInt rfl rfl rfl rfl (by first | exact Try.underlying3 | exact Try.underlying94) (by exact Try.underlying3) ?_; (refine Plan.int (i64r (by omega)) ?_)) | refine J.seq (J.region mixed hI (by kernel_rfl) ?_))
    refine Plan.indexAddr itE 28 l it0E rfl rfl rfl rfl (Sub.old fun _ h => h) rfl eltItE itLE (by omega) (by omega) ?_
    rw [Int.toNat_natCast, hgd]
    refine Plan.loadAggP rfl rfl rfl rfl (Sub.refl _) Try.underlying134 rfl (by rw [itLE]; kernel_rfl) ?_
    refine Plan.loadAggC (key := 1000) (q := 0) (vs := [vi d.1, vi d.2]) rfl rfl rfl rfl rfl rfl (obj_reads rfl) Try.underlying28 rfl (by kernel_rfl) (by decide) ?_
    refine Plan.callFn rfl rfl rfl rfl (vals2 rfl rfl) Try.func99 rfl rfl (Spc.fnCalls (cmpAt_fnE l[h] d) (fun w _ => by simp [Fa.dens, Fa.den])) ?_
    repeat ((refine Plan.ints rfl rfl rfl rfl rfl rfl ?_; (skip)))
    refine J.condD rfl (fun hc2 => ?_) (fun hc2 => ?_)
    · have hlt : dlt l[h].1 d := (cmpD_lt _ _).1 hc2
      repeat (first | refine Plan.move rfl rfl rfl rfl ?_ | refine Plan.assign rfl rfl rfl rfl ?_ | (refine Plan.ints rfl rfl rfl rfl rfl rfl ?_; (refine Plan.int (i64r (by omega)) ?_)) | refine J.region mixed hI (by kernel_rfl) ?_)
      refine Plan.int (y := ((h + 1 : Nat) : Int)) (by omega) ?_
      repeat (fail)
      refine Nrm.next (h + 1, j) ⟨by simp only; omega, hj, fun k x hk hkh => ?_, hhi⟩ (by simp only; omega) (by repeat (first | exact Weak.nil | refine Weak.cons rfl (Sub.refl _) ?_))
      rcases Nat.lt_or_ge k h with h1 | h1
      · exact dlt_trans (sorted_at hs hk hx h1) hlt
      · have : k = h := by simp only at hkh; omega
        subst this; rw [hx] at hk; cases hk; exact hlt
    · have hlt : ¬ dlt l[h].1 d := fun hd => hc2 ((cmpD_lt _ _).2 hd)
      repeat (first | refine Plan.move rfl rfl rfl rfl ?_ | refine Plan.assign rfl rfl rfl rfl ?_ | refine J.region mixed hI (by kernel_rfl) ?_)
      refine Nrm.next (i, h) ⟨by simp only; omega, by simp only; omega, hlo, fun k x hk hkh => ?_⟩ (by simp only; omega) (by repeat (first | exact Weak.nil | refine Weak.cons rfl (Sub.refl _) ?_))
      rcases Nat.lt_or_ge h k with h1 | h1
      · exact fun hd => hlt (dlt_trans (sorted_at hs hx hk h1) hd)
      · have : k = h := by simp only at hkh; omega
        subst this; rw [hx] at hk; cases hk; exact hlt
  have hie : i = j := by omega
  subst hie
  have hpos : posD l d = i := posD_of hj hlo hhi
  refine J.exit ?_
  rw [hpos]
  have hhere : hereD l d = ((l[i]?).map fun x => decide (x.1 = d)).getD false := by unfold hereD; rw [hpos]
  repeat (first | refine Plan.move rfl rfl rfl rfl ?_ | (refine Plan.ints rfl rfl rfl rfl rfl rfl ?_; (skip)) | refine J.seq (J.region mixed hI (by kernel_rfl) ?_))
  refine Plan.splitD (fun hc2 => ?_) (fun hc2 => ?_)
  · have hil : i < l.length := by omega
    have hx : l[i]? = some l[i] := List.getElem?_eq_getElem hil
    have hgd : l.getD i it0E = l[i] := by rw [List.getD_eq_getElem?_getD, hx]; rfl
    rw [hx] at hhere
    repeat (refine Plan.move rfl rfl rfl rfl ?_)
    refine Plan.indexAddr itE 28 l it0E rfl rfl rfl rfl (Sub.old fun _ h => h) rfl eltItE itLE (by omega) (by omega) ?_
    rw [Int.toNat_natCast, hgd]
    refine Plan.loadAggP rfl rfl rfl rfl (Sub.refl _) Try.underlying134 rfl (by rw [itLE]; kernel_rfl) ?_
    refine Plan.loadAggC (key := 1000) (q := 0) (vs := [vi d.1, vi d.2]) rfl rfl rfl rfl rfl rfl (obj_reads rfl) Try.underlying28 rfl (by kernel_rfl) (by decide) ?_
    refine Plan.callFn rfl rfl rfl rfl (vals2 rfl rfl) Try.func99 rfl rfl (Spc.fnCalls (cmpAt_fnE l[i] d) (fun w _ => by simp [Fa.dens, Fa.den])) ?_
    repeat (first | refine Plan.assign rfl rfl rfl rfl ?_ | refine Plan.pick rfl rfl rfl rfl rfl ?_ | (refine Plan.ints rfl rfl rfl rfl rfl rfl ?_; (skip)))
    have hb : (cmpD l[i].1 d == 0) = hereD l d := by
      rw [hhere]; exact beq_decide (cmpD_eq _ _)
    refine Plan.boolv hb ?_
    repeat (fail)
    exact J.ret (Nrm.ret2 rfl (fun _ h => h) fun B hB => ⟨_, rfl, Ress.cons rfl (by exact Sub.refl _) (Ress.cons rfl (by exact Sub.refl _) Ress.nil)⟩)
  · have hx : l[i]? = none := List.getElem?_eq_none (by omega)
    rw [hx] at hhere
    rw [hhere]
    repeat (first | refine Plan.assign rfl rfl rfl rfl ?_ | refine Plan.skip rfl rfl ?_ | refine Plan.pick rfl rfl rfl rfl rfl ?_)
    exact J.ret (Nrm.ret2 rfl (fun _ h => h) fun B hB => ⟨_, rfl, Ress.cons rfl (by exact Sub.refl _) (Ress.cons rfl (by exact Sub.refl _) Ress.nil)⟩)
/-- A bag, where it lies. -/
def bagCE (β : Nat) (l : List (Dt × EvV)) : Chunk := exC fun p : Option Addr × Nat => sepC (obj β [.slice p.1 l.length p.2]) (rowC 134 28 p.1 l.length p.2 (l.flatMap itE))
theorem place_fnE (β : Nat) (l : List (Dt × EvV)) (hs : sortedD l) (hl : l.length ≤ 1000000) (d : Dt) : SpcR Try.prog 82 [.ex (ptr β), .ex (aggD d.1 d.2)] (bagCE β l) fun _ => .tup [.ex (vi (posD l d)), .ex (.bool (hereD l d))] := by
  refine SpcR.intro Try.func82 rfl (Nat.le_of_ble_eq_true rfl) fun w0 => ?_
  have hI := hIb w0
  refine J.exC (key := 1000) (q := 0) rfl rfl fun x => ?_
  refine J.sepC (key := 1000) (q := 0) rfl rfl ?_
  repeat (refine J.seq (J.region mixed hI (by kernel_rfl) ?_))
  refine Plan.boxP rfl rfl rfl rfl ?_
  repeat (first | refine Plan.move rfl rfl rfl rfl ?_ | refine Plan.assign rfl rfl rfl rfl ?_ | refine J.seq (J.seq (J.region mixed hI (by kernel_rfl) ?_)))
  refine Plan.eqlPtr rfl rfl rfl rfl (by kernel_rfl) ?_
  repeat (first | refine Plan.move rfl rfl rfl rfl ?_ | refine J.seq (J.region mixed hI (by kernel_rfl) ?_) | refine J.condF rfl ?_ | refine J.skip ?_)
  refine Plan.nilOk rfl rfl rfl rfl ?_
  refine Plan.fieldC rfl rfl rfl rfl (by exact Try.underlying78) rfl (by kernel_rfl) (by exact (rfl : _ = 0)) ?_
  refine Plan.loadRowC (key := 1000) (q := 0) (q2 := 1) rfl rfl rfl rfl rfl rfl (obj_reads1 rfl) rfl Try.underlying76 (by rfl) (by decide) ?_
  refine Plan.loadAggP rfl rfl rfl rfl (Sub.refl _) Try.underlying28 rfl (by kernel_rfl) ?_
  refine Plan.call (B := 0) rfl rfl rfl (find_fnE l hs hl d) Try.func98 rfl rfl (fun _ _ => Nat.zero_le _) (Opnds.cons rfl (Sub.refl _) (Opnds.cons rfl (Sub.refl _) (Opnds.cons rfl (Sub.refl _) Opnds.nil))) ?_
  repeat (first | refine Plan.assign rfl rfl rfl rfl ?_ | refine Plan.extract rfl rfl rfl rfl rfl ?_)
  exact J.ret (Nrm.ret2 rfl (fun _ h => h) fun B hB => ⟨_, rfl, Ress.cons rfl (by exact Sub.refl _) (Ress.cons rfl (by exact Sub.refl _) Ress.nil)⟩)
theorem place_nilE (d : Dt) : Spc Try.prog 82 [.ex (.pointer none), .ex (aggD d.1 d.2)] fun _ => .tup [.ex (vi 0), .ex (.bool false)] := by
  refine Spc.intro Try.func82 rfl (Nat.le_of_ble_eq_true rfl) fun w0 => ?_
  have hI := hIb w0
  repeat (refine J.seq (J.region mixed hI (by kernel_rfl) ?_))
  refine Plan.boxP rfl rfl rfl rfl ?_
  repeat (first | refine Plan.move rfl rfl rfl rfl ?_ | refine Plan.assign rfl rfl rfl rfl ?_ | refine Plan.eqlPtr rfl rfl rfl rfl (by kernel_rfl) ?_ | refine J.seq (J.region mixed hI (by kernel_rfl) ?_) | refine J.seq (J.seq (J.region mixed hI (by kernel_rfl) ?_)) | refine J.condT rfl ?_)
  exact J.ret (Nrm.ret2 rfl (fun _ h => h) fun B hB => ⟨_, rfl, Ress.cons rfl (by exact Sub.refl _) (Ress.cons rfl (by exact Sub.refl _) Ress.nil)⟩)
theorem len_fnE (β : Nat) (l : List (Dt × EvV)) : SpcR Try.prog 61 [.ex (ptr β)] (bagCE β l) fun _ => .ex (vi l.length) := by
  refine SpcR.intro Try.func61 rfl (Nat.le_of_ble_eq_true rfl) fun w0 => ?_
  have hI := hIb w0
  refine J.exC (key := 1000) (q := 0) rfl rfl fun x => ?_
  refine J.sepC (key := 1000) (q := 0) rfl rfl ?_
  repeat (first | refine Plan.move rfl rfl rfl rfl ?_ | refine Plan.assign rfl rfl rfl rfl ?_ | refine Plan.nilOk rfl rfl rfl rfl ?_ | refine Plan.fieldC rfl rfl rfl rfl (by first | exact Try.underlying86 | exact Try.underlying78) rfl (by kernel_rfl) (by exact (rfl : _ = 0)) ?_ | refine Plan.loadC (key := 1000) (q := 0) rfl rfl rfl rfl rfl rfl (obj_reads1 rfl) (by first | exact Try.underlying3 | exact Try.underlying76) (by rfl) (by decide) ?_ | refine Plan.eqlPtr rfl rfl rfl rfl (by kernel_rfl) ?_ | refine J.seq (J.region mixed hI (by kernel_rfl) ?_) | refine J.seq (J.seq (J.region mixed hI (by kernel_rfl) ?_)) | refine J.condF rfl ?_ | refine J.skip ?_)
  refine Plan.lenE rfl rfl rfl rfl Try.underlying76 ?_
  repeat (refine Plan.assign rfl rfl rfl rfl ?_)
  exact J.ret (Nrm.ret1 rfl (fun _ h => h) rfl fun B _ => Sub.refl _)
theorem len_nilE : Spc Try.prog 61 [.ex (.pointer none)] fun _ => .ex (vi 0) := by
  refine Spc.intro Try.func61 rfl (Nat.le_of_ble_eq_true rfl) fun w0 => ?_
  have hI := hIb w0
  repeat (first | refine Plan.move rfl rfl rfl rfl ?_ | refine Plan.assign rfl rfl rfl rfl ?_ | refine Plan.eqlPtr rfl rfl rfl rfl (by kernel_rfl) ?_ | refine J.seq (J.region mixed hI (by kernel_rfl) ?_) | refine J.seq (J.seq (J.region mixed hI (by kernel_rfl) ?_)) | refine J.condT rfl ?_)
  exact J.ret (Nrm.ret1 rfl (fun _ h => h) rfl fun B _ => Sub.refl _)

theorem itOneE (x : Dt × EvV) : ∀ u ∈ itE x, u.oneCell' = true := by
  simp [itC, encTI, encTS, EvV.enc, str, Value.oneCell']
abbrev rowIE (B : Option Addr) (n cap : Nat) (xs : List Value) : Chunk := rowC 134 28 B n cap xs
theorem insert_fnE (B : Option Addr) (cap vb vc : Nat) (l : List (Dt × EvV)) (hl : l.length ≤ 1000000) (i : Nat) (hi : i ≤ l.length) (y : Dt × EvV) :
    SpcC Try.prog 85 [.ex (.slice B l.length cap), .ex (vi i), .ex (.slice (some ⟨vb, 0, none⟩) 1 vc)] (sepC (rowIE B l.length cap (l.flatMap itE)) (rowIE (some ⟨vb, 0, none⟩) 1 vc (itE y)))
      (fun _ : Option Addr × Nat => True) (fun x => .ex (.slice x.1 (l.length + 1) x.2)) (fun x => rowIE x.1 (l.length + 1) x.2 ((insD l i y).flatMap itE)) := by
  refine SpcC.intro2 Try.func85 rfl (Nat.le_of_ble_eq_true rfl) fun w1 F args hd hc => ?_
  have hI := kept_below F w1
  have hA := Own.kept F w1
  refine J.sepC (key := 1000) (q := 0) rfl rfl ?_
  refine J.factC (key := 1000) (q := 0) rfl rfl (fun w F h => row_room h) fun hrm => ?_
  obtain ⟨hr1, hr2, hr3, hr4, hr5⟩ := hrm
  refine J.factC (key := 1000) (q := 1) rfl rfl (fun w F h => row_room h) fun hrv => ?_
  obtain ⟨-, hv2, hv3, -, -⟩ := hrv
  repeat (first | refine Plan.move rfl rfl rfl rfl ?_ | refine Plan.assign rfl rfl rfl rfl ?_ | refine J.seq (J.region mixed hI (by kernel_rfl) ?_))
  refine Plan.sliceAny rfl rfl rfl rfl eltItE rfl hi ?_
  repeat (first | refine Plan.move rfl rfl rfl rfl ?_ | refine J.seq (J.region mixed hI (by kernel_rfl) ?_))
  refine Plan.lenE rfl rfl rfl rfl Try.underlying76 ?_
  repeat (first | refine Plan.move rfl rfl rfl rfl ?_ | refine Plan.assign rfl rfl rfl rfl ?_ | (refine Plan.ints rfl rfl rfl rfl rfl rfl ?_; (skip)) | refine J.seq (J.region mixed hI (by kernel_rfl) ?_) | refine J.seq (J.seq (J.region mixed hI (by kernel_rfl) ?_)) | refine J.condF rfl ?_ | refine J.skip ?_)
  refine Plan.lenE rfl rfl rfl rfl Try.underlying76 ?_
  repeat (first | refine Plan.move rfl rfl rfl rfl ?_ | refine Plan.assign rfl rfl rfl rfl ?_ | (refine Plan.ints rfl rfl rfl rfl rfl rfl ?_; (skip)) | refine J.seq (J.seq (J.region mixed hI (by kernel_rfl) ?_)))
  refine J.condE rfl (fun hin => ?_) (fun hin => ?_)
  · have hin' : i = l.length := by omega
    subst hin'
    refine J.seeC (t := 2) (key := 1000) (q := 1) rfl rfl rfl (fun w F h => row_rowH h) ?_
    repeat (first | refine Plan.move rfl rfl rfl rfl ?_ | refine J.seq (J.region mixed hI (by kernel_rfl) ?_))
    refine Plan.appendC (key := 1000) (q := 0) rfl rfl rfl rfl rfl (Sub.refl _) eltItE (by intro _ e; cases e; decide) rfl hA rfl (itOneE y) (by rw [flat_len itLE, itLE]; omega) fun B' m' cap' hm' => ?_
    have hm2 : m' = l.length + 1 := by rw [flat_len itLE, itLE] at hm'; omega
    subst hm2
    repeat (refine Plan.assign rfl rfl rfl rfl ?_)
    refine J.ret (Nrm.retC1 (key := 1000) (B', cap') rfl rfl rfl trivial (Sub.refl _) (Ent.trans Ent.left (Ent.rowEq (by simp [insD]))))
  have hlt : i < l.length := by omega
  obtain ⟨g, rfl⟩ : ∃ g, B = some ⟨g, 0, none⟩ := by
    cases B with
    | none => have := (hr4 rfl).1; omega
    | some ad => exact ⟨ad.block, by rw [← hr5 ad rfl]⟩
  refine J.convC (key := 1000) (q := 0) rfl rfl row_blk ?_
  refine J.exC (key := 1000) (q := 0) rfl rfl fun rest => ?_
  refine J.purC (key := 1000) (q := 0) rfl rfl fun hrest => ?_
  refine J.convC (key := 1000) (q := 1) rfl rfl row_blk ?_
  refine J.exC (key := 1000) (q := 1) rfl rfl fun rest2 => ?_
  refine J.purC (key := 1000) (q := 1) rfl rfl fun hrest2 => ?_
  have hfl := flat_len itLE l
  have hyl := itLE y
  have hrl := hrest.1
  rw [List.length_append] at hrl
  have e1 := flat_take itLE l i hi rest
  have hpl : ((l.take i).flatMap itE).length = i * 28 := by rw [flat_len itLE, List.length_take, Nat.min_eq_left hi]
  have hdl : ((l.drop i).flatMap itE).length = (l.length - i) * 28 := by rw [flat_len itLE, List.length_drop]
  have hone : ∀ u ∈ (l.drop i).flatMap itE, u.oneCell' = true := fun u hu => by
    obtain ⟨x, _, hx⟩ := List.mem_flatMap.1 hu
    exact itOneE x u hx
  repeat (first | refine Plan.move rfl rfl rfl rfl ?_ | (refine Plan.ints rfl rfl rfl rfl rfl rfl ?_; (refine Plan.int (i64r (by omega)) ?_)) | refine J.seq (J.seq (J.region mixed hI (by kernel_rfl) ?_)) | refine J.skip ?_)
  refine Plan.capE rfl rfl rfl rfl Try.underlying76 ?_
  repeat ((refine Plan.ints rfl rfl rfl rfl rfl rfl ?_; (skip)))
  refine J.condD rfl (fun hroom => ?_) (fun hroom => ?_)
  · repeat (first | refine Plan.move rfl rfl rfl rfl ?_ | refine J.seq (J.region mixed hI (by kernel_rfl) ?_))
    refine Plan.sliceHi (b0 := i) rfl rfl rfl rfl eltItE rfl (by omega) ?_
    repeat (first | refine Plan.move rfl rfl rfl rfl ?_ | (refine Plan.ints rfl rfl rfl rfl rfl rfl ?_; (refine Plan.int (i64r (by omega)) ?_)))
    refine Plan.int (y := ((l.length + 1 - i : Nat) : Int)) (by omega) ?_
    refine Plan.appendZ (key := 1000) (q := 0) rfl rfl rfl (by intro _ e; cases e; decide) rfl rfl eltItE Try.underlying3 rfl hA rfl (by rw [List.length_append]; omega) (by omega) (by omega) (by omega) fun β cap' rest3 h1 h2 h3 => ?_
    rw [show i + (l.length + 1 - i) = l.length + 1 by omega, e1]
    repeat (first | refine Plan.move rfl rfl rfl rfl ?_ | refine Plan.assign rfl rfl rfl rfl ?_ | refine J.seq (J.region mixed hI (by kernel_rfl) ?_))
    refine Plan.sliceLo rfl rfl rfl rfl eltItE rfl (by omega) (by omega) (by omega) ?_
    repeat (refine Plan.move rfl rfl rfl rfl ?_)
    refine Plan.copyC (key := 1000) (q := 2) (q2 := 1) (cnt := 1) (news := itE y) rfl rfl rfl (by intro _ e; cases e; decide) rfl rfl eltItE rfl hA rfl rfl (blk_reads (by simp [hyl])) (by simp only [Nat.min_def]; split <;> omega) (by rw [hyl]) (itOneE y) (by rw [List.length_append, hpl, h3, hyl]; omega) ?_
    rw [show 0 + i * 28 = i * 28 by omega, splice hpl]
    repeat (first | refine Plan.move rfl rfl rfl rfl ?_ | (refine Plan.ints rfl rfl rfl rfl rfl rfl ?_; (refine Plan.int (i64r (by omega)) ?_)) | refine J.seq (J.region mixed hI (by kernel_rfl) ?_))
    refine Plan.sliceLo (a0 := i + 1) rfl rfl rfl rfl eltItE rfl (by omega) (by omega) (by omega) ?_
    repeat (refine Plan.move rfl rfl rfl rfl ?_)
    refine Plan.sliceLo rfl rfl rfl rfl eltItE rfl (by omega) (by omega) (by omega) ?_
    have hPl : ((l.take i).flatMap itE ++ itE y).length = (i + 1) * 28 := by rw [List.length_append, hpl, hyl]; omega
    have hR3 : (rest3.drop (itE y).length).length = (cap' - i - 1) * 28 := by rw [List.length_drop, h3, hyl]; omega
    rw [← List.append_assoc]
    refine Plan.copyC (key := 1000) (q := 2) (q2 := 0) (cnt := l.length - i) (news := (l.drop i).flatMap itE) rfl rfl rfl (by intro _ e; cases e; decide) rfl rfl eltItE rfl hA rfl rfl (blk_reads (by rw [show 0 + i * 28 = i * 28 by omega]; exact flat_mid itLE l i hi rest)) (by simp only [Nat.min_def]; split <;> omega) hdl hone (by rw [List.length_append, hPl, hdl, hR3]; omega) ?_
    rw [show 0 + (i + 1) * 28 = (i + 1) * 28 by omega, splice hPl, ← List.append_assoc]
    have hins : (insD l i y).flatMap itE = (l.take i).flatMap itE ++ itE y ++ (l.drop i).flatMap itE := by simp [insD]
    repeat (first | refine Plan.move rfl rfl rfl rfl ?_ | refine Plan.assign rfl rfl rfl rfl ?_ | refine J.seq (J.region mixed hI (by kernel_rfl) ?_))
    refine J.ret (Nrm.retC1 (key := 1000) (some ⟨β, 0, none⟩, cap') rfl rfl rfl trivial (Sub.refl _) (Ent.right.trans (Ent.right.trans (Ent.left.trans ?_))))
    rw [hins]
    exact blk_row (by rw [List.length_append, List.length_append, hPl, hdl, List.length_drop, hR3]; show _ = cap' * 28; omega) (by rw [List.length_append, hPl, hdl]; omega) (show _ ≤ cap' by omega) (show cap' ≤ _ by omega)
  repeat (first | refine Plan.move rfl rfl rfl rfl ?_ | (refine Plan.ints rfl rfl rfl rfl rfl rfl ?_; (refine Plan.int (i64r (by omega)) ?_)) | refine J.seq (J.region mixed hI (by kernel_rfl) ?_) | refine J.skip ?_)
  refine Plan.sliceHi (b0 := l.length + 1) rfl rfl rfl rfl eltItE rfl (by omega) ?_
  repeat (first | refine Plan.move rfl rfl rfl rfl ?_ | refine Plan.assign rfl rfl rfl rfl ?_ | (refine Plan.ints rfl rfl rfl rfl rfl rfl ?_; (refine Plan.int (i64r (by omega)) ?_)) | refine J.seq (J.seq (J.region mixed hI (by kernel_rfl) ?_)))
  refine Plan.sliceLo (a0 := i + 1) rfl rfl rfl rfl eltItE rfl (by omega) (by omega) (by omega) ?_
  repeat (fail)
  refine Plan.overlapsC (key := 1000) (q := 1) (q2 := 0) rfl rfl rfl rfl rfl rfl rfl rfl rfl rfl eltItE rfl rfl rfl (by decide) (by rw [List.length_append]; omega) (Nat.le_of_ble_eq_true rfl) ?_
  repeat (first | refine Plan.move rfl rfl rfl rfl ?_ | (refine Plan.ints rfl rfl rfl rfl rfl rfl ?_; (refine Plan.int (i64r (by omega)) ?_)) | refine Plan.un rfl rfl rfl rfl rfl ?_ | refine J.seq (J.region mixed hI (by kernel_rfl) ?_) | refine J.condT rfl ?_)
  refine Plan.sliceLo (a0 := i + 1) rfl rfl rfl rfl eltItE rfl (by omega) (by omega) (by omega) ?_
  repeat (refine Plan.move rfl rfl rfl rfl ?_)
  refine Plan.sliceLo rfl rfl rfl rfl eltItE rfl (by omega) (by omega) (by omega) ?_
  have hL0 : (l.flatMap itE ++ rest).length = cap * 28 := hrest.1
  refine Plan.copyC (key := 1000) (q := 0) (q2 := 0) (cnt := l.length - i) (news := (l.drop i).flatMap itE) rfl rfl rfl (by intro _ e; cases e; decide) rfl rfl eltItE rfl hA rfl rfl (blk_reads (by rw [show 0 + i * 28 = i * 28 by omega]; exact flat_mid itLE l i hi rest)) (by simp only [Nat.min_def]; split <;> omega) hdl hone (by rw [hL0, hdl]; omega) ?_
  obtain ⟨mid, hmid⟩ : ∃ mid, mid = (l.flatMap itE ++ rest).take (0 + (i + 1) * 28) ++ (l.drop i).flatMap itE ++ (l.flatMap itE ++ rest).drop (0 + (i + 1) * 28 + ((l.drop i).flatMap itE).length) := ⟨_, rfl⟩
  rw [← hmid]
  have hmidl : mid.length = cap * 28 := by rw [hmid, List.length_append, List.length_append, List.length_take, List.length_drop, hL0, hdl, Nat.min_eq_left (by omega)]; omega
  repeat (first | refine Plan.move rfl rfl rfl rfl ?_ | refine J.seq (J.region mixed hI (by kernel_rfl) ?_))
  refine Plan.sliceLo (a0 := i) rfl rfl rfl rfl eltItE rfl (by omega) (by omega) (by omega) ?_
  repeat (refine Plan.move rfl rfl rfl rfl ?_)
  refine Plan.copyC (key := 1000) (q := 0) (q2 := 1) (cnt := 1) (news := itE y) rfl rfl rfl (by intro _ e; cases e; decide) rfl rfl eltItE rfl hA rfl rfl (blk_reads (by simp [hyl])) (by simp only [Nat.min_def]; split <;> omega) (by rw [hyl]) (itOneE y) (by rw [hmidl, hyl]; omega) ?_
  obtain ⟨tail, ht⟩ : ∃ tail, tail = (l.flatMap itE ++ rest).drop (0 + (i + 1) * 28 + ((l.drop i).flatMap itE).length) := ⟨_, rfl⟩
  have htl : tail.length = cap * 28 - ((i + 1) * 28 + (l.length - i) * 28) := by rw [ht, List.length_drop, hL0, hdl]; omega
  have hins : (insD l i y).flatMap itE = (l.take i).flatMap itE ++ itE y ++ (l.drop i).flatMap itE := by simp [insD]
  have hfin : mid.take (0 + i * 28) ++ itE y ++ mid.drop (0 + i * 28 + (itE y).length) = (insD l i y).flatMap itE ++ tail := by
    have hm : mid = (l.flatMap itE ++ rest).take ((i + 1) * 28) ++ ((l.drop i).flatMap itE ++ tail) := by rw [hmid, ht, List.append_assoc, Nat.zero_add]
    have hk1 : ((l.flatMap itE ++ rest).take ((i + 1) * 28)).length = (i + 1) * 28 := by rw [List.length_take, hL0, Nat.min_eq_left (by omega)]
    have a1 : mid.take (0 + i * 28) = (l.take i).flatMap itE := by
      rw [hm, Nat.zero_add, List.take_append_of_le_length (by rw [hk1]; omega), List.take_take, Nat.min_eq_left (by omega), e1]
    have a2 : mid.drop (0 + i * 28 + (itE y).length) = (l.drop i).flatMap itE ++ tail := by
      rw [hm, show 0 + i * 28 + (itE y).length = (i + 1) * 28 by rw [hyl]; omega, List.drop_left' hk1]
    rw [a1, a2, hins]; simp only [List.append_assoc]
  rw [hfin]
  repeat (first | refine Plan.move rfl rfl rfl rfl ?_ | refine Plan.assign rfl rfl rfl rfl ?_ | refine J.seq (J.region mixed hI (by kernel_rfl) ?_))
  have hil : ((insD l i y).flatMap itE).length = (l.length + 1) * 28 := by rw [flat_len itLE, insD_length]
  refine J.ret (Nrm.retC1 (key := 1000) (some ⟨g, 0, none⟩, cap) rfl rfl rfl trivial (Sub.refl _) (Ent.left.trans ?_))
  exact blk_row (by rw [List.length_append, hil, htl]; show _ = cap * 28; omega) hil (show _ ≤ cap by omega) (show cap ≤ _ by omega)

theorem delete_fnE (g cap : Nat) (l : List (Dt × EvV)) (i : Nat) (hi : i < l.length) (hl : l.length ≤ 1000000) :
    SpcC Try.prog 107 [.ex (.slice (some ⟨g, 0, none⟩) l.length cap), .ex (vi i), .ex (vi (i + 1 : Nat))] (rowIE (some ⟨g, 0, none⟩) l.length cap (l.flatMap itE))
      (fun _ : Unit => True) (fun _ => .ex (.slice (some ⟨g, 0, none⟩) (l.length - 1) cap)) (fun _ => rowIE (some ⟨g, 0, none⟩) (l.length - 1) cap ((l.eraseIdx i).flatMap itE)) := by
  refine SpcC.intro2 Try.func107 rfl (Nat.le_of_ble_eq_true rfl) fun w1 F args hd hc => ?_
  have hI := kept_below F w1
  have hA := Own.kept F w1
  refine J.convC (key := 1000) (q := 0) rfl rfl row_blk ?_
  refine J.exC (key := 1000) (q := 0) rfl rfl fun rest => ?_
  refine J.purC (key := 1000) (q := 0) rfl rfl fun hrest => ?_
  obtain ⟨hr1, hr2, hr3, hr4⟩ := hrest
  have hfl := flat_len itLE l
  have e1 := flat_take itLE l i (by omega) rest
  have hpl : ((l.take i).flatMap itE).length = i * 28 := by rw [flat_len itLE, List.length_take, Nat.min_eq_left (by omega)]
  have hdl : ((l.drop (i + 1)).flatMap itE).length = (l.length - (i + 1)) * 28 := by rw [flat_len itLE, List.length_drop]
  have hone : ∀ u ∈ (l.drop (i + 1)).flatMap itE, u.oneCell' = true := fun u hu => by
    obtain ⟨x, _, hx⟩ := List.mem_flatMap.1 hu
    exact itOneE x u hx
  have hdel : (l.eraseIdx i).flatMap itE = (l.take i).flatMap itE ++ (l.drop (i + 1)).flatMap itE := by rw [List.eraseIdx_eq_take_drop_succ, List.flatMap_append]
  repeat (first | refine Plan.move rfl rfl rfl rfl ?_ | refine Plan.assign rfl rfl rfl rfl ?_ | refine J.seq (J.region mixed hI (by kernel_rfl) ?_))
  refine Plan.lenE rfl rfl rfl rfl Try.underlying76 ?_
  repeat (fail)
  refine Plan.slice3 (a0 := i) (b0 := i + 1) (c0 := l.length) rfl rfl rfl rfl eltItE rfl rfl rfl (by omega) (by omega) (by omega) ?_
  repeat (first | refine Plan.move rfl rfl rfl rfl ?_ | (refine Plan.ints rfl rfl rfl rfl rfl rfl ?_; (skip)) | refine J.seq (J.seq (J.region mixed hI (by kernel_rfl) ?_)))
  refine J.condE rfl (fun hc => by omega) (fun _ => ?_)
  repeat (first | refine Plan.move rfl rfl rfl rfl ?_ | refine J.seq (J.region mixed hI (by kernel_rfl) ?_) | refine J.skip ?_)
  refine Plan.lenE rfl rfl rfl rfl Try.underlying76 ?_
  repeat (first | refine Plan.move rfl rfl rfl rfl ?_ | refine Plan.assign rfl rfl rfl rfl ?_ | refine J.seq (J.region mixed hI (by kernel_rfl) ?_))
  refine Plan.sliceHi (b0 := i) rfl rfl rfl rfl eltItE rfl (by omega) ?_
  repeat (refine Plan.move rfl rfl rfl rfl ?_)
  refine Plan.sliceLoB (a0 := i + 1) rfl rfl rfl rfl eltItE rfl (by omega) ?_
  refine Plan.appendBlk (key := 1000) (q := 0) (q2 := 0) (news := (l.drop (i + 1)).flatMap itE) rfl rfl rfl (by intro _ e; cases e; decide) rfl rfl eltItE rfl hA rfl rfl (blk_reads ?_) hdl hone (by omega) (by rw [hr1, hdl]; omega) ?_
  · by_cases hcap : cap = i + 1
    · have : (l.drop (i + 1)).flatMap itE = [] := List.eq_nil_of_length_eq_zero (by rw [hdl, show l.length - (i + 1) = 0 by omega, Nat.zero_mul])
      rw [this]; rfl
    · rw [if_neg hcap, Nat.zero_add]; exact flat_mid itLE l (i + 1) (by omega) rest
  obtain ⟨rest2, hrest2⟩ : ∃ r, r = (l.flatMap itE ++ rest).drop (i * 28 + ((l.drop (i + 1)).flatMap itE).length) := ⟨_, rfl⟩
  rw [← hrest2, e1, ← hdel, show i + (l.length - (i + 1)) = l.length - 1 by omega]
  have hel : ((l.eraseIdx i).flatMap itE).length = (l.length - 1) * 28 := by rw [hdel, List.length_append, hpl, hdl]; omega
  have hr2l : rest2.length = (cap - (l.length - 1)) * 28 := by rw [hrest2, List.length_drop, hr1, hdl]; omega
  repeat (first | refine Plan.move rfl rfl rfl rfl ?_ | refine Plan.assign rfl rfl rfl rfl ?_ | refine J.seq (J.region mixed hI (by kernel_rfl) ?_))
  refine Plan.lenE rfl rfl rfl rfl Try.underlying76 ?_
  repeat (refine Plan.move rfl rfl rfl rfl ?_)
  refine Plan.sliceMid (a0 := l.length - 1) (b0 := l.length) rfl rfl rfl rfl eltItE rfl rfl (by omega) (by omega) (by omega) ?_
  refine Plan.clearC (key := 1000) (q := 0) rfl rfl rfl rfl rfl eltItE rfl hA rfl (fun u hu => itOneE it0E u hu) (by rw [List.length_append, hel, hr2l]; omega) fun zs hzs => ?_
  have hfin : ((l.eraseIdx i).flatMap itE ++ rest2).take (0 + (l.length - 1) * 28) ++ zs ++ ((l.eraseIdx i).flatMap itE ++ rest2).drop (0 + (l.length - 1) * 28 + (l.length - (l.length - 1)) * 28) = (l.eraseIdx i).flatMap itE ++ (zs ++ rest2.drop 28) := by
    rw [Nat.zero_add, List.take_left' hel, show (l.length - 1) * 28 + (l.length - (l.length - 1)) * 28 = ((l.eraseIdx i).flatMap itE).length + 28 by rw [hel]; omega, ← List.drop_drop, List.drop_left, List.append_assoc]
  rw [hfin]
  repeat (first | refine Plan.move rfl rfl rfl rfl ?_ | refine Plan.assign rfl rfl rfl rfl ?_ | refine J.seq (J.region mixed hI (by kernel_rfl) ?_))
  refine J.ret (Nrm.retC1 (key := 1000) () rfl rfl rfl trivial (Sub.refl _) (Ent.left.trans ?_))
  exact blk_row (by rw [List.length_append, List.length_append, hel, hzs, List.length_drop, hr2l]; show _ = cap * 28; omega) hel (show _ ≤ cap by omega) (show cap ≤ _ by omega)

theorem bag_closeE {β cap : Nat} {l : List (Dt × EvV)} {B : Option Addr} : Ent (allC [obj β [.slice B l.length cap], rowIE B l.length cap (l.flatMap itE)]) (bagCE β l) :=
  Ent.ex (B, cap) (Ent.sep (Ent.refl _) Ent.one)
theorem put_fnE (β : Nat) (l : List (Dt × EvV)) (hs : sortedD l) (hl : l.length ≤ 1000000) (d : Dt) (x : EvV) :
    SpcC Try.prog 62 [.ex (ptr β), .ex (aggD d.1 d.2), .ex (.agg (EvV.enc x).toArray)] (bagCE β l) (fun _ : Unit => True) (fun _ => Fa.any) (fun _ => bagCE β (putD l d x)) := by
  refine SpcC.introLow Try.func62 rfl (Nat.le_of_ble_eq_true rfl) fun w0 F => ?_
  have hI := kept_below F w0
  have hA := Own.kept F w0
  repeat (refine J.seq (J.region mixed hI (by kernel_rfl) ?_))
  refine Plan.boxP rfl rfl rfl rfl ?_
  refine Plan.boxP rfl rfl rfl rfl ?_
  repeat (first | refine Plan.move rfl rfl rfl rfl ?_ | refine Plan.eqlPtr rfl rfl rfl rfl (by kernel_rfl) ?_ | refine J.seq (J.region mixed hI (by kernel_rfl) ?_) | refine J.seq (J.seq (J.region mixed hI (by kernel_rfl) ?_)) | refine J.condF rfl ?_ | refine J.skip ?_)
  refine Plan.loadAggP rfl rfl rfl rfl (Sub.refl _) Try.underlying28 rfl (by kernel_rfl) ?_
  refine Plan.callR (key := 1000) (B := 0) (q := 0) rfl rfl rfl (place_fnE β l hs hl d) Try.func82 rfl rfl (fun _ _ => Nat.zero_le _) (by repeat (first | exact Opnds.nil | refine Opnds.cons rfl (by exact Sub.refl _) ?_)) rfl rfl (by decide) ?_
  repeat (first | refine Plan.move rfl rfl rfl rfl ?_ | refine Plan.assign rfl rfl rfl rfl ?_ | refine Plan.extract rfl rfl rfl rfl rfl ?_ | refine J.seq (J.seq (J.region mixed hI (by kernel_rfl) ?_)))
  refine J.exC (key := 1000) (q := 0) rfl rfl fun p => ?_
  refine J.sepC (key := 1000) (q := 0) rfl rfl ?_
  refine J.factC (key := 1000) (q := 1) rfl rfl (fun w F h => row_room h) fun hrm => ?_
  obtain ⟨B, cap⟩ := p
  dsimp only at hrm ⊢
  refine J.cond rfl (fun hh => ?_) (fun hh => ?_)
  · obtain ⟨y, hy, hyd⟩ := here_at hh
    have hlt : posD l d < l.length := (List.getElem?_eq_some_iff.1 hy).1
    obtain ⟨g, rfl⟩ : ∃ g, B = some ⟨g, 0, none⟩ := by
      cases B with
      | none => have := (hrm.2.2.2.1 rfl).1; omega
      | some ad => exact ⟨ad.block, by rw [← hrm.2.2.2.2 ad rfl]⟩
    have hput : putD l d x = l.set (posD l d) (d, x) := by unfold putD; rw [if_pos hh]
    have hsf := set_flat (enc := EvV.enc) itLE l (posD l d) y x hy (posD l d * 28 + 2) rfl
    rw [hyd, ← hput] at hsf
    have hlen : (putD l d x).length = l.length := by rw [hput, List.length_set]
    refine J.unlow (key := 1000) rfl ?_
    repeat (first | refine Plan.move rfl rfl rfl rfl ?_ | refine Plan.nilOk rfl rfl rfl rfl ?_ | refine Plan.fieldC rfl rfl rfl rfl (by first | exact Try.underlying86 | exact Try.underlying78) rfl (by kernel_rfl) (by exact (rfl : _ = 0)) ?_ | refine Plan.loadC (key := 1000) (q := 0) rfl rfl rfl rfl rfl rfl (obj_reads1 rfl) (by first | exact Try.underlying3 | exact Try.underlying76) (by rfl) (by decide) ?_ | refine J.seq (J.region mixed hI (by kernel_rfl) ?_))
    refine Plan.loadAggP rfl rfl rfl rfl (Sub.refl _) Try.underlying86 rfl (by show _ = some (EvV.enc x).length; rw [encE]; kernel_rfl) ?_
    refine Plan.indexC (off := posD l d * 28) rfl rfl rfl rfl rfl eltItE hlt (by omega) ?_
    refine Plan.fieldC (off := posD l d * 28 + 2) rfl rfl rfl rfl (by exact Try.underlying134) rfl (by kernel_rfl) rfl ?_
    refine Plan.storeC (key := 1000) (q := 1) (off := posD l d * 28 + 2) rfl rfl rfl rfl rfl rfl (fun u hu => itOneE (d, x) u (List.mem_cons_of_mem _ (List.mem_cons_of_mem _ hu))) (by kernel_rfl) rfl hA rfl (row_pat (by rw [flat_len itLE]; show posD l d * 28 + 2 + (28 - 2) ≤ _; omega)) ?_
    repeat (fail)
    refine J.ret (Nrm.retC0 (key := 1000) () rfl rfl rfl trivial ?_ (.inr rfl))
    refine Ent.trans (Ent.sep (Ent.refl _) (Ent.sep (Ent.rowEq hsf) (Ent.refl _))) ?_
    have := bag_closeE (β := β) (cap := cap) (l := putD l d x) (B := some ⟨g, 0, none⟩)
    rw [hlen] at this
    exact this
  · have hput : putD l d x = insD l (posD l d) (d, x) := by unfold putD; rw [if_neg (by rw [hh]; decide)]
    have hlen : (putD l d x).length = l.length + 1 := by rw [hput, insD_length]
    refine J.skip ?_
    refine J.loose2 [(0, ptr β)] [(0, .ex (ptr β))] mixed hI rfl rfl rfl (by kernel_rfl) (by kernel_rfl) (by kernel_rfl) rfl rfl (fun ⟨_, _, h⟩ => h) (fun _ _ _ _ h => h) (by repeat (first | exact Weak.nil | refine Weak.cons rfl (Sub.refl _) ?_)) ?_ ?_
    · exact Gives.cons [(0, .ex (ptr β))] (by kernel_rfl) rfl (by kernel_rfl) (Plan.move rfl rfl rfl rfl (Plan.gives rfl)) Gives.nil
    repeat (first | refine Plan.move rfl rfl rfl rfl ?_ | refine Plan.assign rfl rfl rfl rfl ?_ | refine Plan.nilOk rfl rfl rfl rfl ?_ | refine Plan.fieldC rfl rfl rfl rfl (by first | exact Try.underlying86 | exact Try.underlying78) rfl (by kernel_rfl) (by exact (rfl : _ = 0)) ?_ | refine Plan.loadC (key := 1000) (q := 0) rfl rfl rfl rfl rfl rfl (obj_reads1 rfl) (by exact Try.underlying76) (by rfl) (by decide) ?_)
    refine Plan.loadAggP rfl rfl rfl rfl (Sub.refl _) Try.underlying28 rfl (by kernel_rfl) ?_
    repeat (fail)
    refine Plan.loadAggP rfl rfl rfl rfl (Sub.refl _) Try.underlying86 rfl (by show _ = some (EvV.enc x).length; rw [encE]; kernel_rfl) ?_
    refine Plan.build rfl rfl rfl (Parts.cons rfl (Parts.cons rfl Parts.nil)) (cells := (itE (d, x)).toArray) (by kernel_rfl) ?_
    refine Plan.litTight (B := w0.heap.size) (m := 1) rfl rfl rfl eltItE rfl (fun w h => h.size) rfl (fun v hv => by rw [List.mem_singleton.1 hv]; rfl) (by decide) ?_
    refine Plan.callOwn (key := 1000) (q := 1) (t := 34) rfl rfl rfl (fun g => insert_fnE B cap g 1 l hl (posD l d) (posD_le l d) (d, x)) Try.func85 rfl rfl (by intro _ e; cases e; decide) rfl (Sub.refl _) (fun g => by repeat (first | exact Opnds.nil | refine Opnds.cons rfl (by exact Sub.refl _) ?_)) rfl hA (fun b hb => .inr hb) rfl fun y _ => ?_
    repeat (first | refine Plan.nilOk rfl rfl rfl rfl ?_ | refine Plan.fieldC rfl rfl rfl rfl (by first | exact Try.underlying86 | exact Try.underlying78) rfl (by kernel_rfl) (by exact (rfl : _ = 0)) ?_)
    refine Plan.storeC (key := 1000) (q := 0) rfl rfl rfl rfl rfl rfl (by simp [Value.cells, Value.oneCell', str]) (by kernel_rfl) rfl hA rfl (obj_pat1 (Nat.le_of_ble_eq_true rfl)) ?_
    rw [← hput, ← hlen]
    exact Nrm.retC0 (key := 1000) () rfl rfl rfl trivial (bag_closeE (B := y.1) (cap := y.2)) (.inl rfl)
theorem remove_fnE (β : Nat) (l : List (Dt × EvV)) (hs : sortedD l) (hl : l.length ≤ 1000000) (d : Dt) :
    SpcC Try.prog 89 [.ex (ptr β), .ex (aggD d.1 d.2)] (bagCE β l) (fun _ : Unit => True) (fun _ => .ex (.bool (hereD l d))) (fun _ => bagCE β (remD l d)) := by
  refine SpcC.intro Try.func89 rfl (Nat.le_of_ble_eq_true rfl) fun w0 F => ?_
  have hI := kept_below F w0
  have hA := Own.kept F w0
  repeat (refine J.seq (J.region mixed hI (by kernel_rfl) ?_))
  refine Plan.boxP rfl rfl rfl rfl ?_
  repeat (first | refine Plan.move rfl rfl rfl rfl ?_ | refine Plan.assign rfl rfl rfl rfl ?_ | refine J.seq (J.region mixed hI (by kernel_rfl) ?_))
  refine Plan.loadAggP rfl rfl rfl rfl (Sub.refl _) Try.underlying28 rfl (by kernel_rfl) ?_
  refine Plan.callR (key := 1000) (B := 0) (q := 0) rfl rfl rfl (place_fnE β l hs hl d) Try.func82 rfl rfl (fun _ _ => Nat.zero_le _) (by repeat (first | exact Opnds.nil | refine Opnds.cons rfl (by exact Sub.refl _) ?_)) rfl rfl (by decide) ?_
  repeat (first | refine Plan.move rfl rfl rfl rfl ?_ | refine Plan.assign rfl rfl rfl rfl ?_ | refine Plan.extract rfl rfl rfl rfl rfl ?_ | refine J.seq (J.seq (J.region mixed hI (by kernel_rfl) ?_)))
  refine J.cond (b := hereD l d) rfl (fun hh => ?_) (fun hh => ?_)
  · obtain ⟨y, hy, hyd⟩ := here_at hh
    have hlt : posD l d < l.length := (List.getElem?_eq_some_iff.1 hy).1
    have hrem : remD l d = l.eraseIdx (posD l d) := by unfold remD; rw [if_pos hh]
    have hlen : (remD l d).length = l.length - 1 := by rw [hrem, List.length_eraseIdx, if_pos hlt]
    refine J.exC (key := 1000) (q := 0) rfl rfl fun p => ?_
    refine J.sepC (key := 1000) (q := 0) rfl rfl ?_
    refine J.factC (key := 1000) (q := 1) rfl rfl (fun w F h => row_room h) fun hrm => ?_
    obtain ⟨B, cap⟩ := p
    dsimp only at hrm ⊢
    obtain ⟨g, rfl⟩ : ∃ g, B = some ⟨g, 0, none⟩ := by
      cases B with
      | none => have := (hrm.2.2.2.1 rfl).1; omega
      | some ad => exact ⟨ad.block, by rw [← hrm.2.2.2.2 ad rfl]⟩
    repeat (first | refine Plan.move rfl rfl rfl rfl ?_ | (refine Plan.ints rfl rfl rfl rfl rfl rfl ?_; (refine Plan.int (i64r (by omega)) ?_)) | refine Plan.nilOk rfl rfl rfl rfl ?_ | refine Plan.fieldC rfl rfl rfl rfl (by first | exact Try.underlying86 | exact Try.underlying78) rfl (by kernel_rfl) (by exact (rfl : _ = 0)) ?_ | refine Plan.loadC (key := 1000) (q := 0) rfl rfl rfl rfl rfl rfl (obj_reads1 rfl) (by first | exact Try.underlying3 | exact Try.underlying76) (by rfl) (by decide) ?_ | refine J.region mixed hI (by kernel_rfl) ?_)
    refine Plan.int (y := ((posD l d + 1 : Nat) : Int)) (by omega) ?_
    refine Plan.callC (key := 1000) (q := 1) rfl rfl rfl (delete_fnE g cap l (posD l d) hlt hl) Try.func107 rfl rfl (by intro _ e; cases e; decide) (by repeat (first | exact Opnds.nil | refine Opnds.cons rfl (by exact Sub.refl _) ?_)) rfl hA rfl ?_
    intro _ _
    repeat (first | refine Plan.nilOk rfl rfl rfl rfl ?_ | refine Plan.fieldC rfl rfl rfl rfl (by first | exact Try.underlying86 | exact Try.underlying78) rfl (by kernel_rfl) (by exact (rfl : _ = 0)) ?_)
    refine Plan.storeC (key := 1000) (q := 0) rfl rfl rfl rfl rfl rfl (by simp [Value.cells, Value.oneCell', str]) (by kernel_rfl) rfl hA rfl (obj_pat1 (Nat.le_of_ble_eq_true rfl)) ?_
    rw [← hrem, ← hlen, hh]
    repeat (first | refine Plan.move rfl rfl rfl rfl ?_ | refine Plan.assign rfl rfl rfl rfl ?_ | refine J.seq (J.region mixed hI (by kernel_rfl) ?_))
    exact J.ret (Nrm.retC1 (key := 1000) () rfl rfl rfl trivial (Sub.refl _) (bag_closeE (B := some ⟨g, 0, none⟩) (cap := cap)))
  · have hrem : remD l d = l := by unfold remD; rw [hh]; rfl
    rw [hrem, hh]
    repeat (first | refine Plan.move rfl rfl rfl rfl ?_ | refine Plan.assign rfl rfl rfl rfl ?_ | refine J.seq (J.region mixed hI (by kernel_rfl) ?_) | refine J.skip ?_)
    exact J.ret (Nrm.retC1 (key := 1000) () rfl rfl rfl trivial (Sub.refl _) Ent.one)

theorem clone_fnE (l : List (Dt × EvV)) (hl : l.length ≤ 1000000) : Spc Try.prog 105 [row 28 (l.flatMap itE)] fun B => own B 134 28 (l.flatMap itE) := by
  refine Spc.intro Try.func105 rfl (Nat.le_of_ble_eq_true rfl) fun w0 => ?_
  have hI := hIb w0
  repeat (first | refine Plan.move rfl rfl rfl rfl ?_ | refine Plan.assign rfl rfl rfl rfl ?_ | refine J.seq (J.region mixed hI (by kernel_rfl) ?_) | refine J.seq (J.seq (J.region mixed hI (by kernel_rfl) ?_)))
  refine Plan.eqlNil rfl rfl rfl rfl (Sub.old fun _ h => h) Try.underlying76 ?_
  repeat (fail)
  refine J.condNil rfl (fun he => ?_) ?_
  · rw [he]
    repeat (first | refine Plan.assign rfl rfl rfl rfl ?_ | refine J.seq (J.region mixed hI (by kernel_rfl) ?_))
    exact J.ret (Nrm.ret1 rfl (fun _ h => h) rfl fun B hB => by first | exact Sub.refl _ | exact Sub.own | exact Sub.old (fun _ h => h) | exact Sub.oldOwn (fun _ h => h) | exact Sub.nilRow | exact Sub.ownLower hB | exact Sub.nilOwn (fun _ h => Nat.le_trans hB h.size))
  · repeat (first | refine J.seq (J.region mixed hI (by kernel_rfl) ?_) | refine J.skip ?_)
    refine Plan.lit (B := w0.heap.size) (vs := []) rfl rfl rfl eltItE rfl (hBb w0) rfl (by simp [Value.cells]) (by decide) ?_
    repeat (refine Plan.move rfl rfl rfl rfl ?_)
    refine Plan.append (news := l.flatMap itE) rfl rfl rfl rfl (Sub.refl _) rfl (Sub.old fun _ h => h) eltItE (by intro d hd; cases hd; decide) (hGb w0) (fun u hu => by
      obtain ⟨x, _, hx⟩ := List.mem_flatMap.1 hu
      exact itOneE x u hx) (by simp only [flat, List.flatMap_nil, List.length_nil]; rw [flat_len itLE]; omega) ?_
    repeat (refine Plan.assign rfl rfl rfl rfl ?_)
    exact J.ret (Nrm.ret1 rfl (fun _ h => h) rfl fun B hB => by first | exact Sub.refl _ | exact Sub.own | exact Sub.old (fun _ h => h) | exact Sub.oldOwn (fun _ h => h) | exact Sub.nilRow | exact Sub.ownLower hB | exact Sub.nilOwn (fun _ h => Nat.le_trans hB h.size))
theorem items_fnE (β : Nat) (l : List (Dt × EvV)) (hl : l.length ≤ 1000000) : SpcR Try.prog 87 [.ex (ptr β)] (bagCE β l) fun B => own B 134 28 (l.flatMap itE) := by
  refine SpcR.intro Try.func87 rfl (Nat.le_of_ble_eq_true rfl) fun w0 => ?_
  have hI := hIb w0
  refine J.exC (key := 1000) (q := 0) rfl rfl fun x => ?_
  refine J.sepC (key := 1000) (q := 0) rfl rfl ?_
  repeat (first | refine Plan.move rfl rfl rfl rfl ?_ | refine Plan.assign rfl rfl rfl rfl ?_ | refine J.seq (J.region mixed hI (by kernel_rfl) ?_) | refine J.seq (J.seq (J.region mixed hI (by kernel_rfl) ?_)))
  refine Plan.eqlPtr rfl rfl rfl rfl (by kernel_rfl) ?_
  repeat (first | refine Plan.move rfl rfl rfl rfl ?_ | refine J.seq (J.region mixed hI (by kernel_rfl) ?_) | refine J.condF rfl ?_ | refine J.skip ?_)
  refine Plan.nilOk rfl rfl rfl rfl ?_
  refine Plan.fieldC rfl rfl rfl rfl (by exact Try.underlying78) rfl (by kernel_rfl) (by exact (rfl : _ = 0)) ?_
  refine Plan.loadRowC (key := 1000) (q := 0) (q2 := 1) rfl rfl rfl rfl rfl rfl (obj_reads1 rfl) rfl Try.underlying76 (by rfl) (by decide) ?_
  refine Plan.call (B := w0.heap.size) rfl rfl rfl (clone_fnE l hl) Try.func105 rfl rfl (hBb w0) (by repeat (first | exact Opnds.nil | refine Opnds.cons rfl (by exact Sub.refl _) ?_)) ?_
  repeat (refine Plan.assign rfl rfl rfl rfl ?_)
  exact J.ret (Nrm.ret1 rfl (fun _ h => h) rfl fun B hB => by first | exact Sub.refl _ | exact Sub.own | exact Sub.old (fun _ h => h) | exact Sub.oldOwn (fun _ h => h) | exact Sub.nilRow | exact Sub.ownLower hB | exact Sub.nilOwn (fun _ h => Nat.le_trans hB h.size))
theorem items_nilE : Spc Try.prog 87 [.ex (.pointer none)] fun B => own B 134 28 [] := by
  refine Spc.intro Try.func87 rfl (Nat.le_of_ble_eq_true rfl) fun w0 => ?_
  have hI := hIb w0
  repeat (first | refine Plan.move rfl rfl rfl rfl ?_ | refine Plan.assign rfl rfl rfl rfl ?_ | refine Plan.eqlPtr rfl rfl rfl rfl (by kernel_rfl) ?_ | refine J.seq (J.region mixed hI (by kernel_rfl) ?_) | refine J.seq (J.seq (J.region mixed hI (by kernel_rfl) ?_)) | refine J.condT rfl ?_)
  exact J.ret (Nrm.ret1 rfl (fun _ h => h) rfl fun B hB => by first | exact Sub.refl _ | exact Sub.own | exact Sub.old (fun _ h => h) | exact Sub.oldOwn (fun _ h => h) | exact Sub.nilRow | exact Sub.ownLower hB | exact Sub.nilOwn (fun _ h => Nat.le_trans hB h.size))
def WhOkE (wh : Value) (p : EvV → Bool) : Prop := (wh = .nilFunc ∧ p = fun _ => true) ∨ ∃ f fn, wh = .func (.func f) #[] #[] ∧ Try.prog.funcs[f]? = some fn ∧ fn.body.isNone = false ∧ (fn.name == "runtime.NumGoroutine") = false ∧ ∀ x, Spc Try.prog f [.ex (.agg (EvV.enc x).toArray)] fun _ => .ex (.bool (p x))
def goesE (v : Nat → Int) (p : EvV → Bool) (x : Dt × EvV) : Bool := decide (hasP v x.1.1 x.1.2) && p x.2
theorem drop1_fnE (a b : Nat) (v : Nat → Int) (wh : Value) (p : EvV → Bool) (hw : WhOkE wh p) (x : Dt × EvV) :
    SpcR Try.prog 104 [.ex (.agg (itE x).toArray), .ex (ptr a), .ex (ptr b)] (sepC (obj a (vList v)) (obj b [wh])) fun _ => .ex (.bool (goesE v p x)) := by
  refine SpcR.intro Try.func104 rfl (Nat.le_of_ble_eq_true rfl) fun w0 => ?_
  have hI := hIb w0
  refine J.sepC (key := 1000) (q := 0) rfl rfl ?_
  repeat (refine J.seq (J.region mixed hI (by kernel_rfl) ?_))
  refine Plan.boxP rfl rfl rfl rfl ?_
  repeat (first | refine Plan.assign rfl rfl rfl rfl ?_ | refine J.seq (J.region mixed hI (by kernel_rfl) ?_))
  refine Plan.loadAggC (key := 1000) (q := 0) (vs := vList v) rfl rfl rfl rfl rfl rfl obj_whole Try.underlying42 rfl (by kernel_rfl) (by decide) ?_
  refine Plan.fieldPtr (us := [vi x.1.1, vi x.1.2]) rfl rfl rfl rfl (Sub.refl _) Try.underlying134 rfl (by kernel_rfl) rfl ?_
  refine Plan.loadAggP rfl rfl rfl rfl (Sub.refl _) Try.underlying28 rfl (by kernel_rfl) ?_
  refine Plan.call (B := w0.heap.size) rfl rfl rfl (has_fn v x.1.1 x.1.2) Try.func50 rfl rfl (hBb w0) (by repeat (first | exact Opnds.nil | refine Opnds.cons rfl (by exact Sub.refl _) ?_)) ?_
  refine Plan.splitD (fun h => ?_) (fun h => ?_)
  · repeat (refine Plan.move rfl rfl rfl rfl ?_)
    refine Plan.loadC (key := 1000) (q := 1) rfl rfl rfl rfl rfl rfl (obj_reads1 rfl) Try.underlying90 rfl (by decide) ?_
    rcases hw with ⟨rfl, rfl⟩ | ⟨f, fn, rfl, hf, hb, hn, hp⟩
    · have hg : goesE v (fun _ => true) x = true := by simp [goesE, h]
      rw [hg]
      refine Plan.eqlFunc rfl rfl rfl rfl Try.underlying90 (.inl ⟨rfl, rfl⟩) ?_
      repeat (first | refine Plan.move rfl rfl rfl rfl ?_ | refine Plan.assign rfl rfl rfl rfl ?_ | refine Plan.skip rfl rfl ?_ | refine Plan.pick rfl rfl rfl rfl rfl ?_)
      exact J.ret (Nrm.ret1 rfl (fun _ h => h) rfl fun B _ => Sub.refl _)
    · have hg : goesE v p x = p x.2 := by simp [goesE, h]
      rw [hg]
      refine Plan.eqlFunc rfl rfl rfl rfl Try.underlying90 (.inr ⟨⟨_, _, _, rfl⟩, rfl⟩) ?_
      repeat (refine Plan.move rfl rfl rfl rfl ?_)
      refine Plan.loadC (key := 1000) (q := 1) rfl rfl rfl rfl rfl rfl (obj_reads1 rfl) Try.underlying90 rfl (by decide) ?_
      refine Plan.fieldPtr (us := EvV.enc x.2) rfl rfl rfl rfl (Sub.refl _) Try.underlying134 rfl (by kernel_rfl) (by show (EvV.enc x.2).take (EvV.enc x.2).length = _; rw [List.take_length]) ?_
      refine Plan.loadAggP rfl rfl rfl rfl (Sub.refl _) Try.underlying86 rfl (by rw [encE]; kernel_rfl) ?_
      refine Plan.callFn rfl rfl rfl rfl (vals1 rfl) hf hb hn (Spc.fnCalls (hp x.2) (fun w _ => by simp [Fa.dens, Fa.den])) ?_
      repeat (first | refine Plan.assign rfl rfl rfl rfl ?_ | refine Plan.pick rfl rfl rfl rfl rfl ?_)
      exact J.ret (Nrm.ret1 rfl (fun _ h => h) rfl fun B _ => Sub.refl _)
  · have hg : goesE v p x = false := by simp [goesE, h]
    rw [hg]
    repeat (first | refine Plan.move rfl rfl rfl rfl ?_ | refine Plan.assign rfl rfl rfl rfl ?_ | refine Plan.skip rfl rfl ?_ | refine Plan.pick rfl rfl rfl rfl rfl ?_)
    exact J.ret (Nrm.ret1 rfl (fun _ h => h) rfl fun B _ => Sub.refl _)

abbrev fnVE (a b : Nat) : Value := .func (.func 104) #[] #[ptr a, ptr b]
def ixEE (l : List (Dt × EvV)) (a b : Nat) (v : Nat → Int) (wh : Value) (B : Option Addr) (cap : Nat) (i : Nat) : Env :=
  [(0, row 28 (l.flatMap itE)), (1, .ex (fnVE a b)), (7, .ex (vi l.length)), (8, .ex (vi i)), (1000, heap (fun _ => True) [rowIE B l.length cap (l.flatMap itE), obj a (vList v), obj b [wh]])]
theorem indexF_fnE (B : Option Addr) (cap a b : Nat) (l : List (Dt × EvV)) (hl : l.length ≤ 1000000) (v : Nat → Int) (wh : Value) (p : EvV → Bool) (hw : WhOkE wh p) :
    SpcR Try.prog 111 [.ex (.slice B l.length cap), .ex (fnVE a b)] (allC [rowIE B l.length cap (l.flatMap itE), obj a (vList v), obj b [wh]]) fun _ => .ex (vi (idxD (goesE v p) l)) := by
  refine SpcR.intro Try.func111 rfl (Nat.le_of_ble_eq_true rfl) fun w0 => ?_
  have hI := hIb w0
  refine J.open1 (key := 1000) rfl ?_
  repeat (first | refine Plan.move rfl rfl rfl rfl ?_ | refine Plan.assign rfl rfl rfl rfl ?_ | refine J.seq (J.region mixed hI (by kernel_rfl) ?_) | refine J.seq (J.seq (J.region mixed hI (by kernel_rfl) ?_)))
  refine Plan.lenE rfl rfl rfl rfl Try.underlying76 ?_
  repeat (refine Plan.move rfl rfl rfl rfl ?_)
  refine J.seeC (t := 0) (key := 1000) (q := 0) rfl rfl rfl (fun w F h => row_rowH h) ?_
  refine J.block (J.loop (ixEE l a b v wh B cap) (fun i => i ≤ l.length ∧ ∀ k x, l[k]? = some x → k < i → goesE v p x = false) (fun i => l.length - i) 0 ⟨Nat.zero_le _, fun k x _ h => by omega⟩ ?_ ?_)
  · repeat (first | exact Weak.nil | refine Weak.cons rfl (Sub.refl _) ?_)
  rintro i ⟨hil, hno⟩
  repeat (first | (refine Plan.ints rfl rfl rfl rfl rfl rfl ?_; (skip)) | refine J.seq (J.region mixed hI (by kernel_rfl) ?_))
  refine J.seq (J.condD rfl (fun hc => ?_) (fun hc => ?_))
  · have hlt : i < l.length := by omega
    have hx : l[i]? = some l[i] := List.getElem?_eq_getElem hlt
    have hgd : l.getD i it0E = l[i] := by rw [List.getD_eq_getElem?_getD, hx]; rfl
    repeat (refine J.skip ?_)
    refine J.seq (J.block ?_)
    repeat (first | refine Plan.move rfl rfl rfl rfl ?_ | refine Plan.assign rfl rfl rfl rfl ?_ | refine J.seq (J.region mixed hI (by kernel_rfl) ?_))
    refine Plan.indexAddr itE 28 l it0E rfl rfl rfl rfl (Sub.refl _) rfl eltItE itLE (by omega) (by omega) ?_
    rw [Int.toNat_natCast, hgd]
    refine Plan.loadAggP rfl rfl rfl rfl (Sub.refl _) Try.underlying134 rfl (by rw [itLE]; kernel_rfl) ?_
    refine Plan.callFR (key := 1000) (B := 0) (fs := [.ex (.agg (itE l[i]).toArray)]) (caps := [ptr a, ptr b]) rfl rfl rfl rfl (drop1_fnE a b v wh p hw l[i]) Try.func104 rfl rfl (fun _ _ => Nat.zero_le _) (Opnds.cons rfl (Sub.refl _) Opnds.nil) rfl (Ent.right.trans (Ent.sep (Ent.refl _) Ent.one)) (by decide) ?_
    repeat (fail)
    refine J.cond rfl (fun hg => ?_) (fun hg => ?_)
    · rw [idx_found hno hx hg]
      repeat (first | refine Plan.move rfl rfl rfl rfl ?_ | refine Plan.assign rfl rfl rfl rfl ?_ | refine J.seq (J.region mixed hI (by kernel_rfl) ?_))
      exact J.ret (Nrm.ret1 rfl (fun _ h => h) rfl fun B _ => Sub.refl _)
    · repeat (first | refine Plan.move rfl rfl rfl rfl ?_ | (refine Plan.ints rfl rfl rfl rfl rfl rfl ?_; (refine Plan.int (i64r (by omega)) ?_)) | refine J.region mixed hI (by kernel_rfl) ?_ | refine J.skip ?_)
      refine Plan.int (y := ((i + 1 : Nat) : Int)) (by omega) ?_
      repeat (fail)
      refine Nrm.next (i + 1) ⟨by omega, fun k x hk hki => ?_⟩ (by omega) (by repeat (first | exact Weak.nil | refine Weak.cons rfl (Sub.refl _) ?_))
      rcases Nat.lt_or_ge k i with h1 | h1
      · exact hno k x hk h1
      · have : k = i := by omega
        subst this; rw [hx] at hk; cases hk; exact hg
  refine J.exit ?_
  rw [idx_none fun k x hk => hno k x hk (by have := (List.getElem?_eq_some_iff.1 hk).1; omega)]
  repeat (first | refine Plan.assign rfl rfl rfl rfl ?_ | refine J.seq (J.region mixed hI (by kernel_rfl) ?_))
  exact J.ret (Nrm.ret1 rfl (fun _ h => h) rfl fun B _ => Sub.refl _)
def keepE (v : Nat → Int) (p : EvV → Bool) (l : List (Dt × EvV)) : List (Dt × EvV) := l.filter fun x => !goesE v p x
def dlFE (w0 : World) (F : Nat → Prop) (l : List (Dt × EvV)) (g cap a b : Nat) (v : Nat → Int) (wh : Value) (p : EvV → Bool) (rest : List Value) (j i : Nat) (junk : List Value) : Env :=
  [(0, .ex (.slice (some ⟨g, 0, none⟩) l.length cap)), (1, .ex (fnVE a b)), (5, .ex (vi i)), (6, .ex (vi j)),
   (1000, heap (fun b => F b ∨ w0.heap.size ≤ b) [blk g 134 ((keepE v p (l.take j)).flatMap itE ++ (junk ++ ((l.drop j).flatMap itE ++ rest))), obj a (vList v), obj b [wh]])]
def dlEE (w0 : World) (F : Nat → Prop) (l : List (Dt × EvV)) (g cap a b : Nat) (v : Nat → Int) (wh : Value) (p : EvV → Bool) (rest : List Value) (s : Nat × Nat × List Value) : Env := dlFE w0 F l g cap a b v wh p rest s.1 s.2.1 s.2.2
theorem delF_fnE (B : Option Addr) (cap a b : Nat) (l : List (Dt × EvV)) (hl : l.length ≤ 1000000) (v : Nat → Int) (wh : Value) (p : EvV → Bool) (hw : WhOkE wh p) :
    SpcC Try.prog 103 [.ex (.slice B l.length cap), .ex (fnVE a b)] (allC [rowIE B l.length cap (l.flatMap itE), obj a (vList v), obj b [wh]])
      (fun _ : Unit => True) (fun _ => .ex (.slice B (keepE v p l).length cap)) (fun _ => allC [rowIE B (keepE v p l).length cap ((keepE v p l).flatMap itE)]) := by
  refine SpcC.intro Try.func103 rfl (Nat.le_of_ble_eq_true rfl) fun w0 F => ?_
  have hI := kept_below F w0
  have hA := Own.kept F w0
  refine J.open1 (key := 1000) rfl ?_
  refine J.factC (key := 1000) (q := 0) rfl rfl (fun w F h => row_room h) fun hrm => ?_
  repeat (first | refine Plan.move rfl rfl rfl rfl ?_ | refine Plan.assign rfl rfl rfl rfl ?_ | refine J.seq (J.region mixed hI (by kernel_rfl) ?_))
  refine Plan.callRG (key := 1000) (B := 0) rfl rfl rfl (indexF_fnE B cap a b l hl v wh p hw) Try.func111 rfl rfl (fun _ _ => Nat.zero_le _) (by repeat (first | exact Opnds.nil | refine Opnds.cons rfl (by exact Sub.refl _) ?_)) rfl (Ent.refl _) (by decide) ?_
  repeat (first | refine Plan.move rfl rfl rfl rfl ?_ | refine Plan.assign rfl rfl rfl rfl ?_ | (refine Plan.ints rfl rfl rfl rfl rfl rfl ?_; (skip)) | refine J.seq (J.seq (J.region mixed hI (by kernel_rfl) ?_)))
  refine J.condE rfl (fun hc => ?_) (fun hc => ?_)
  · have hk : keepE v p l = l := by
      unfold keepE
      exact List.filter_eq_self.2 fun x hx => by rw [idx_no hc x hx]; rfl
    rw [hk]
    repeat (first | refine Plan.move rfl rfl rfl rfl ?_ | refine Plan.assign rfl rfl rfl rfl ?_ | refine J.seq (J.region mixed hI (by kernel_rfl) ?_))
    exact J.ret (Nrm.retC1 (key := 1000) () rfl rfl rfl trivial (Sub.refl _) (Ent.sep (Ent.refl _) Ent.emp))
  obtain ⟨k, hkl, hki, hkg, hkn⟩ := idx_some hc
  rw [hki]
  obtain ⟨g, rfl⟩ : ∃ g, B = some ⟨g, 0, none⟩ := by
    cases B with
    | none => have := (hrm.2.2.2.1 rfl).1; omega
    | some ad => exact ⟨ad.block, by rw [← hrm.2.2.2.2 ad rfl]⟩
  refine J.convC (key := 1000) (q := 0) rfl rfl row_blk ?_
  refine J.exC (key := 1000) (q := 0) rfl rfl fun rest => ?_
  refine J.purC (key := 1000) (q := 0) rfl rfl fun hrest => ?_
  obtain ⟨hr1, hr2, hr3, hr4⟩ := hrest
  have hkt : keepE v p (l.take (k + 1)) = l.take k := by
    unfold keepE
    rw [List.take_succ_eq_append_getElem hkl, List.filter_append, List.filter_cons_of_neg (by rw [hkg]; decide), List.filter_nil, List.append_nil]
    refine List.filter_eq_self.2 fun x hx => ?_
    obtain ⟨j, hj, rfl⟩ := List.getElem_of_mem hx
    rw [List.length_take] at hj
    rw [List.getElem_take, hkn j _ (List.getElem?_eq_getElem (by omega)) (by omega)]; rfl
  repeat (first | refine Plan.move rfl rfl rfl rfl ?_ | refine Plan.assign rfl rfl rfl rfl ?_ | (refine Plan.ints rfl rfl rfl rfl rfl rfl ?_; (refine Plan.int (i64r (by omega)) ?_)) | refine J.seq (J.seq (J.region mixed hI (by kernel_rfl) ?_)) | refine J.skip ?_)
  refine Plan.int (y := ((k + 1 : Nat) : Int)) (by omega) ?_
  repeat (fail)
  refine J.block (J.loop (dlEE w0 F l g cap a b v wh p rest) (fun s => s.1 ≤ l.length ∧ s.2.1 < s.1 ∧ s.2.1 = (keepE v p (l.take s.1)).length ∧ s.2.2.length = (s.1 - s.2.1) * 28) (fun s => l.length - s.1) (k + 1, k, itE l[k]) ⟨hkl, Nat.lt_succ_self k, by rw [hkt, List.length_take]; simp only; omega, by show _ = (k + 1 - k) * _; rw [show k + 1 - k = 1 by omega, Nat.one_mul]; rfl⟩ ?_ ?_)
  · have hcs : l.flatMap itE ++ rest = (keepE v p (l.take (k + 1))).flatMap itE ++ (itE l[k] ++ ((l.drop (k + 1)).flatMap itE ++ rest)) := by
      rw [hkt, ← List.append_assoc, ← List.append_assoc]
      congr 1
      have : l.flatMap itE = (l.take k ++ l[k] :: l.drop (k + 1)).flatMap itE := by rw [List.getElem_cons_drop, List.take_append_drop]
      rw [this, List.flatMap_append, List.flatMap_cons, ← List.append_assoc]
    rw [hcs]
    repeat (first | exact Weak.nil | refine Weak.cons rfl (Sub.refl _) ?_)
  rintro ⟨j, i, junk⟩ ⟨hj, hij, hi, hjl⟩
  simp only at hj hij hi hjl
  change J _ _ _ _ _ (dlFE w0 F l g cap a b v wh p rest j i junk)
  have hKl := flat_len itLE (keepE v p (l.take j))
  rw [← hi] at hKl
  have hDl := flat_len itLE (l.drop j)
  rw [List.length_drop] at hDl
  repeat (first | refine Plan.move rfl rfl rfl rfl ?_ | refine J.seq (J.seq (J.region mixed hI (by kernel_rfl) ?_)))
  refine Plan.lenE rfl rfl rfl rfl Try.underlying76 ?_
  repeat ((refine Plan.ints rfl rfl rfl rfl rfl rfl ?_; (skip)))
  refine J.condD rfl (fun hc => ?_) (fun hc => ?_)
  · have hlt : j < l.length := by omega
    have hd : l.drop j = l[j] :: l.drop (j + 1) := (List.getElem_cons_drop (h := hlt)).symm
    repeat (refine J.skip ?_)
    refine J.seq (J.block ?_)
    repeat (first | refine Plan.move rfl rfl rfl rfl ?_ | refine J.seq (J.region mixed hI (by kernel_rfl) ?_))
    refine Plan.indexC (off := j * 28) rfl rfl rfl rfl rfl eltItE hlt (by omega) ?_
    refine Plan.loadAggC (key := 1000) (q := 0) (vs := itE l[j]) rfl rfl rfl rfl rfl rfl (blk_reads ?_) Try.underlying134 rfl (by rw [itLE]; kernel_rfl) (by decide) ?_
    · rw [← List.append_assoc, List.drop_left' (by rw [List.length_append, hKl, hjl, ← Nat.add_mul]; congr 1; omega), hd, List.flatMap_cons, List.append_assoc, List.take_left]
    refine Plan.allocC (key := 1000) (z := .agg (itE it0E).toArray) rfl rfl rfl (by intro _ e; cases e; decide) (by kernel_rfl) rfl hA fun γ => ?_
    refine Plan.storeC (key := 1000) (q := 3) (off := 0) rfl rfl rfl rfl rfl rfl (fun u hu => itOneE l[j] u hu) (by kernel_rfl) rfl hA rfl (obj_pat (show 0 + (itE l[j]).length ≤ (itE it0E).length by rw [itLE, itLE]; omega)) ?_
    have hobj : (itE it0E).take 0 ++ itE l[j] ++ (itE it0E).drop (0 + (itE l[j]).length) = itE l[j] := by
      rw [List.take_zero, List.nil_append, List.drop_of_length_le (by rw [itLE, itLE]; omega), List.append_nil]
    obtain ⟨K, hK⟩ : ∃ K, K = (keepE v p (l.take j)).flatMap itE := ⟨_, rfl⟩
    obtain ⟨T, hT⟩ : ∃ T, T = (l.drop (j + 1)).flatMap itE ++ rest := ⟨_, rfl⟩
    have hcs : (keepE v p (l.take j)).flatMap itE ++ (junk ++ ((l.drop j).flatMap itE ++ rest)) = K ++ (junk ++ (itE l[j] ++ T)) := by rw [hd, List.flatMap_cons, List.append_assoc, ← hK, ← hT]
    rw [← hK] at hKl
    have hks : keepE v p (l.take (j + 1)) = keepE v p (l.take j) ++ if goesE v p l[j] then [] else [l[j]] := by
      unfold keepE
      rw [List.take_succ_eq_append_getElem hlt, List.filter_append]
      congr 1
      cases hgg : goesE v p l[j] <;> simp [List.filter_cons, hgg]
    refine J.regroup (key := 1000) [blk g 134 (K ++ (junk ++ (itE l[j] ++ T))), obj a (vList v), obj b [wh], obj γ (itE l[j])] rfl (Ent.sep (Ent.blkEq hcs) (Ent.sep (Ent.refl _) (Ent.sep (Ent.refl _) (Ent.sep (Ent.of_eq (congrArg (obj γ) hobj)) (Ent.refl _))))) ?_
    repeat (first | refine Plan.move rfl rfl rfl rfl ?_ | refine J.seq (J.region mixed hI (by kernel_rfl) ?_))
    refine Plan.loadAggC (key := 1000) (q := 3) (vs := itE l[j]) rfl rfl rfl rfl rfl rfl obj_whole Try.underlying134 rfl (by rw [itLE]; kernel_rfl) (by decide) ?_
    refine Plan.callFR (key := 1000) (B := 0) (fs := [.ex (.agg (itE l[j]).toArray)]) (caps := [ptr a, ptr b]) rfl rfl rfl rfl (drop1_fnE a b v wh p hw l[j]) Try.func104 rfl rfl (fun _ _ => Nat.zero_le _) (Opnds.cons rfl (Sub.refl _) Opnds.nil) rfl (Ent.right.trans (Ent.sep (Ent.refl _) Ent.left)) (by decide) ?_
    repeat (refine Plan.un rfl rfl rfl rfl rfl ?_)
    refine J.cond rfl (fun hg => ?_) (fun hg => ?_)
    · have hg' : goesE v p l[j] = false := by simpa using hg
      rw [hg', if_neg (by decide)] at hks
      have hlen : (keepE v p (l.take (j + 1))).length = i + 1 := by rw [hks, List.length_append, ← hi]; rfl
      have hKl2 : K.length = i * 28 := hKl
      have hjs : 28 ≤ junk.length := by rw [hjl]; omega
      have hcs2 : (K ++ (junk ++ (itE l[j] ++ T))).take (i * 28) ++ itE l[j] ++ (K ++ (junk ++ (itE l[j] ++ T))).drop (i * 28 + (itE l[j]).length) = (keepE v p (l.take (j + 1))).flatMap itE ++ ((junk.drop 28 ++ itE l[j]) ++ T) := by
        rw [List.take_left' hKl2, ← List.drop_drop, List.drop_left' hKl2, itLE, List.drop_append_of_le_length hjs, hks, List.flatMap_append, ← hK]
        simp only [List.flatMap_cons, List.flatMap_nil, List.append_nil, List.append_assoc]
      repeat (first | refine Plan.move rfl rfl rfl rfl ?_ | refine J.seq (J.region mixed hI (by kernel_rfl) ?_))
      refine Plan.loadAggC (key := 1000) (q := 3) (vs := itE l[j]) rfl rfl rfl rfl rfl rfl obj_whole Try.underlying134 rfl (by rw [itLE]; kernel_rfl) (by decide) ?_
      refine Plan.indexC (off := i * 28) rfl rfl rfl rfl rfl eltItE (by omega) (by omega) ?_
      refine Plan.storeC (key := 1000) (q := 0) (off := i * 28) rfl rfl rfl rfl rfl rfl (fun u hu => itOneE l[j] u hu) (by kernel_rfl) rfl hA rfl (blk_pat (show i * 28 + (itE l[j]).length ≤ _ by rw [List.length_append, List.length_append, List.length_append, itLE, hKl2]; omega)) ?_
      repeat (first | refine Plan.move rfl rfl rfl rfl ?_ | refine Plan.assign rfl rfl rfl rfl ?_ | (refine Plan.ints rfl rfl rfl rfl rfl rfl ?_; (refine Plan.int (i64r (by omega)) ?_)) | refine J.region mixed hI (by kernel_rfl) ?_)
      refine Plan.int (y := ((j + 1 : Nat) : Int)) (by omega) ?_
      repeat (fail)
      refine Nrm.next (j + 1, i + 1, junk.drop 28 ++ itE l[j]) ⟨by simp only; omega, by simp only; omega, hlen.symm, by simp only; rw [List.length_append, List.length_drop, itLE, hjl]; omega⟩ (by simp only; omega) ?_
      refine Weak.cons rfl (Sub.refl _) (Weak.cons rfl (Sub.refl _) (Weak.cons rfl (Sub.refl _) (Weak.cons rfl (Sub.refl _) (Weak.cons rfl (Sub.heap (Ent.sep (Ent.blkEq ?_) (Ent.sep (Ent.refl _) (Ent.sep (Ent.refl _) Ent.emp)))) Weak.nil))))
      rw [← hT]; exact hcs2
    · have hg' : goesE v p l[j] = true := by simpa using hg
      rw [hg', if_pos rfl, List.append_nil] at hks
      repeat (first | refine Plan.move rfl rfl rfl rfl ?_ | refine Plan.assign rfl rfl rfl rfl ?_ | (refine Plan.ints rfl rfl rfl rfl rfl rfl ?_; (refine Plan.int (i64r (by omega)) ?_)) | refine J.region mixed hI (by kernel_rfl) ?_ | refine J.skip ?_)
      refine Plan.int (y := ((j + 1 : Nat) : Int)) (by omega) ?_
      repeat (fail)
      refine Nrm.next (j + 1, i, junk ++ itE l[j]) ⟨by simp only; omega, by simp only; omega, by simp only; rw [hks]; exact hi, by simp only; rw [List.length_append, itLE, hjl]; omega⟩ (by simp only; omega) ?_
      refine Weak.cons rfl (Sub.refl _) (Weak.cons rfl (Sub.refl _) (Weak.cons rfl (Sub.refl _) (Weak.cons rfl (Sub.refl _) (Weak.cons rfl (Sub.heap (Ent.sep (Ent.blkEq ?_) (Ent.sep (Ent.refl _) (Ent.sep (Ent.refl _) Ent.emp)))) Weak.nil))))
      simp only
      rw [hks, ← hK, ← hT, List.append_assoc]
  have hje : j = l.length := by omega
  subst hje
  rw [List.take_length] at hKl hi
  rw [List.drop_length] at hDl
  have hcs : (keepE v p (l.take l.length)).flatMap itE ++ (junk ++ ((l.drop l.length).flatMap itE ++ rest)) = (keepE v p l).flatMap itE ++ (junk ++ rest) := by rw [List.take_length, List.drop_length]; rfl
  have hrl : rest.length = (cap - l.length) * 28 := by rw [List.length_append, hr2] at hr1; omega
  rw [← hi]
  refine J.exit ?_
  refine J.regroup (key := 1000) [blk g 134 ((keepE v p l).flatMap itE ++ (junk ++ rest)), obj a (vList v), obj b [wh]] rfl (Ent.sep (Ent.blkEq hcs) (Ent.refl _)) ?_
  repeat (first | refine Plan.move rfl rfl rfl rfl ?_ | refine J.seq (J.region mixed hI (by kernel_rfl) ?_))
  refine Plan.sliceLo (a0 := i) rfl rfl rfl rfl eltItE rfl (by omega) (by omega) (by omega) ?_
  refine Plan.clearC (key := 1000) (q := 0) rfl rfl rfl rfl rfl eltItE rfl hA rfl (fun u hu => itOneE it0E u hu) (by rw [List.length_append, List.length_append, hKl, hjl]; omega) fun zs hzs => ?_
  have hfin : ((keepE v p l).flatMap itE ++ (junk ++ rest)).take (0 + i * 28) ++ zs ++ ((keepE v p l).flatMap itE ++ (junk ++ rest)).drop (0 + i * 28 + (l.length - i) * 28) = (keepE v p l).flatMap itE ++ (zs ++ rest) := by
    rw [Nat.zero_add, List.take_left' hKl, ← List.drop_drop, List.drop_left' hKl, List.drop_left' hjl, List.append_assoc]
  rw [hfin]
  repeat (first | refine Plan.move rfl rfl rfl rfl ?_ | refine J.seq (J.region mixed hI (by kernel_rfl) ?_))
  refine Plan.sliceHi (b0 := i) rfl rfl rfl rfl eltItE rfl (by omega) ?_
  repeat (refine Plan.assign rfl rfl rfl rfl ?_)
  refine J.ret (Nrm.retC1 (key := 1000) () rfl rfl rfl trivial (Sub.refl _) (Ent.sep ?_ Ent.emp))
  exact blk_row (by rw [List.length_append, List.length_append, hKl, hzs, hrl]; show _ = cap * 28; omega) hKl (show i ≤ cap by omega) (show cap ≤ _ by omega)

theorem drop_fnE (β : Nat) (l : List (Dt × EvV)) (hl : l.length ≤ 1000000) (v : Nat → Int) (wh : Value) (p : EvV → Bool) (hw : WhOkE wh p) :
    SpcC Try.prog 86 [.ex (ptr β), .ex (aggV v), .ex wh] (bagCE β l) (fun _ : Unit => True) (fun _ => .ex (vi ((l.length - (keepE v p l).length : Nat) : Int))) (fun _ => bagCE β (keepE v p l)) := by
  have hkl : (keepE v p l).length ≤ l.length := List.length_filter_le _ _
  have hcell : wh.cells.toList = [wh] := by rcases hw with ⟨rfl, _⟩ | ⟨f, fn, rfl, _⟩ <;> rfl
  refine SpcC.intro Try.func86 rfl (Nat.le_of_ble_eq_true rfl) fun w0 F => ?_
  have hI := kept_below F w0
  have hA := Own.kept F w0
  repeat (refine J.seq (J.region mixed hI (by kernel_rfl) ?_))
  refine Plan.boxC (key := 1000) rfl rfl rfl (by intro _ e; cases e; decide) rfl rfl hA fun a => ?_
  refine Plan.boxC (key := 1000) rfl rfl rfl (by intro _ e; cases e; decide) rfl rfl hA fun b => ?_
  rw [hcell]
  repeat (first | refine Plan.move rfl rfl rfl rfl ?_ | refine Plan.assign rfl rfl rfl rfl ?_ | refine J.seq (J.region mixed hI (by kernel_rfl) ?_))
  refine Plan.callR (key := 1000) (B := 0) (q := 0) rfl rfl rfl (len_fnE β l) Try.func61 rfl rfl (fun _ _ => Nat.zero_le _) (by repeat (first | exact Opnds.nil | refine Opnds.cons rfl (by exact Sub.refl _) ?_)) rfl rfl (by decide) ?_
  repeat (first | refine Plan.move rfl rfl rfl rfl ?_ | refine Plan.assign rfl rfl rfl rfl ?_ | (refine Plan.ints rfl rfl rfl rfl rfl rfl ?_; (skip)) | refine J.seq (J.seq (J.region mixed hI (by kernel_rfl) ?_)))
  refine J.condD rfl (fun hc => ?_) (fun hc => ?_)
  · refine J.exC (key := 1000) (q := 0) rfl rfl fun x => ?_
    refine J.sepC (key := 1000) (q := 0) rfl rfl ?_
    repeat (first | refine Plan.move rfl rfl rfl rfl ?_ | refine Plan.nilOk rfl rfl rfl rfl ?_ | refine Plan.fieldC rfl rfl rfl rfl (by first | exact Try.underlying86 | exact Try.underlying78) rfl (by kernel_rfl) (by exact (rfl : _ = 0)) ?_ | refine Plan.loadC (key := 1000) (q := 0) rfl rfl rfl rfl rfl rfl (obj_reads1 rfl) (by first | exact Try.underlying3 | exact Try.underlying76) (by rfl) (by decide) ?_ | refine J.region mixed hI (by kernel_rfl) ?_)
    refine Plan.makeFn (cs := [.tmp 4, .tmp 5]) rfl rfl rfl (vals2 rfl rfl) ?_
    refine Plan.callL (key := 1000) [3, 1, 2] [0] rfl rfl rfl (delF_fnE x.1 x.2 a b l hl v wh p hw) Try.func103 rfl rfl (by intro _ e; cases e; decide) (by repeat (first | exact Opnds.nil | refine Opnds.cons rfl (by exact Sub.refl _) ?_)) rfl hA rfl rfl rfl fun _ _ => ?_
    repeat (first | refine Plan.nilOk rfl rfl rfl rfl ?_ | refine Plan.fieldC rfl rfl rfl rfl (by first | exact Try.underlying86 | exact Try.underlying78) rfl (by kernel_rfl) (by exact (rfl : _ = 0)) ?_)
    refine Plan.storeC (key := 1000) (q := 1) rfl rfl rfl rfl rfl rfl (by simp [Value.cells, Value.oneCell', str]) (by kernel_rfl) rfl hA rfl (obj_pat1 (Nat.le_of_ble_eq_true rfl)) ?_
    refine J.regroup (key := 1000) [bagCE β (keepE v p l)] rfl ((Ent.pickC [1, 0] rfl rfl).trans ((bag_closeE (B := x.1) (cap := x.2)).trans Ent.addEmp)) ?_
    repeat (first | refine Plan.move rfl rfl rfl rfl ?_ | refine J.seq (J.region mixed hI (by kernel_rfl) ?_))
    refine Plan.callR (key := 1000) (B := 0) (q := 0) rfl rfl rfl (len_fnE β (keepE v p l)) Try.func61 rfl rfl (fun _ _ => Nat.zero_le _) (by repeat (first | exact Opnds.nil | refine Opnds.cons rfl (by exact Sub.refl _) ?_)) rfl rfl (by decide) ?_
    repeat (first | refine Plan.assign rfl rfl rfl rfl ?_ | (refine Plan.ints rfl rfl rfl rfl rfl rfl ?_; (refine Plan.int (i64r (by omega)) ?_)))
    refine Plan.int (y := ((l.length - (keepE v p l).length : Nat) : Int)) (by omega) ?_
    repeat (fail)
    exact J.ret (Nrm.retC1 (key := 1000) () rfl rfl rfl trivial (Sub.refl _) Ent.one)
  · have hnil : l = [] := List.eq_nil_of_length_eq_zero (by omega)
    subst hnil
    repeat (first | refine Plan.move rfl rfl rfl rfl ?_ | refine J.seq (J.region mixed hI (by kernel_rfl) ?_) | refine J.skip ?_)
    refine Plan.callR (key := 1000) (B := 0) (q := 0) rfl rfl rfl (len_fnE β []) Try.func61 rfl rfl (fun _ _ => Nat.zero_le _) (by repeat (first | exact Opnds.nil | refine Opnds.cons rfl (by exact Sub.refl _) ?_)) rfl rfl (by decide) ?_
    repeat (first | refine Plan.assign rfl rfl rfl rfl ?_ | (refine Plan.ints rfl rfl rfl rfl rfl rfl ?_; (refine Plan.int (i64r (by omega)) ?_)))
    exact J.ret (Nrm.retC1 (key := 1000) () rfl rfl rfl trivial (Sub.refl _) Ent.left)
end Go.Proofs.Ytkhcjedlopiicaa
