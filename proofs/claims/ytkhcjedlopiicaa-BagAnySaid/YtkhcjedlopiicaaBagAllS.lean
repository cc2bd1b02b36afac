/-
  Bags of string: all of their functions.
-/
import Derived.Test.YtkhcjedlopiicaaBagBase
import Derived.Test.YtkhcjedlopiicaaFreeSlices2
import Derived.Test.YtkhcjedlopiicaaFreeOwn
import Derived.Test.YtkhcjedlopiicaaEvFns2
import Derived.Test.YtkhcjedlopiicaaFreeOwn2
import Derived.Test.YtkhcjedlopiicaaFreePick
import Derived.Test.YtkhcjedlopiicaaBagPlain
set_option linter.unusedSimpArgs false
set_option linter.unusedVariables false
set_option maxRecDepth 20000
namespace Go.Proofs.Ytkhcjedlopiicaa
open Go.Free Go.RowKit Go.Proofs
set_option maxHeartbeats 4000000

abbrev itS (x : Dt × (List UInt8)) : List Value := itC encTS x
theorem itLS (x : Dt × (List UInt8)) : (itS x).length = 3 := rfl
abbrev it0S : Dt × (List UInt8) := ((0, 0), [])
theorem eltItS : Elt Try.prog 63 66 (.agg (itS it0S).toArray) 3 32 := Elt.mk' Try.underlying63 (by kernel_rfl) rfl (by decide) (by decide)
theorem cmpAt_fnS (x : Dt × (List UInt8)) (d : Dt) : Spc Try.prog 78 [.ex (.agg (itS x).toArray), .ex (aggD d.1 d.2)] fun _ => .ex (vi (cmpD x.1 d)) := by
  refine Spc.intro Try.func78 rfl (Nat.le_of_ble_eq_true rfl) fun w0 => ?_
  have hI := hIb w0
  have hA := Own.below w0
  refine J.heap0 1000 (newB w0) ?_
  repeat (refine J.seq (J.region mixed hI (by kernel_rfl) ?_))
  refine Plan.boxC (key := 1000) rfl rfl rfl (by intro _ e; cases e; decide) rfl rfl hA fun β => ?_
  refine Plan.boxC (key := 1000) rfl rfl rfl (by intro _ e; cases e; decide) rfl rfl hA fun γ => ?_
  repeat (first | refine Plan.assign rfl rfl rfl rfl ?_ | refine Plan.fieldC rfl rfl rfl rfl (by first | exact Try.underlying86 | exact Try.underlying28 | exact Try.underlying66) rfl (by kernel_rfl) (by exact (rfl : _ = 0)) ?_ | refine Plan.loadC (key := 1000) (q := 0) rfl rfl rfl rfl rfl rfl (obj_reads1 rfl) (by exact Try.underlying3) (by rfl) (by decide) ?_ | refine Plan.loadC (key := 1000) (q := 1) rfl rfl rfl rfl rfl rfl (obj_reads1 rfl) (by exact Try.underlying3) (by rfl) (by decide) ?_ | refine J.seq (J.region mixed hI (by kernel_rfl) ?_))
  refine Plan.call (B := w0.heap.size) rfl rfl rfl (compare_fn x.1.1 d.1) Try.func72 rfl rfl (hBb w0) (by repeat (first | exact Opnds.nil | refine Opnds.cons rfl (by exact Sub.refl _) ?_)) ?_
  repeat (first | refine Plan.fieldC rfl rfl rfl rfl (by first | exact Try.underlying86 | exact Try.underlying28 | exact Try.underlying66) rfl (by kernel_rfl) (by first | exact (rfl : _ = 0) | exact (rfl : _ = 1)) ?_ | refine Plan.loadC (key := 1000) (q := 0) rfl rfl rfl rfl rfl rfl (obj_reads1 rfl) (by exact Try.underlying3) (by rfl) (by decide) ?_ | refine Plan.loadC (key := 1000) (q := 1) rfl rfl rfl rfl rfl rfl (obj_reads1 rfl) (by exact Try.underlying3) (by rfl) (by decide) ?_)
  refine Plan.call (B := w0.heap.size) rfl rfl rfl (compare_fn x.1.2 d.2) Try.func72 rfl rfl (hBb w0) (by repeat (first | exact Opnds.nil | refine Opnds.cons rfl (by exact Sub.refl _) ?_)) ?_
  refine Plan.lit (B := w0.heap.size) rfl rfl rfl eltI rfl (hBb w0) rfl (by simp [Value.cells]) (by decide) ?_
  refine Plan.call (B := w0.heap.size) rfl rfl rfl (or_fn [cmp3 x.1.1 d.1, cmp3 x.1.2 d.2] (by simp)) Try.func71 rfl rfl (hBb w0) (by repeat (first | exact Opnds.nil | refine Opnds.cons rfl (by exact Sub.own) ?_)) ?_
  repeat (refine Plan.assign rfl rfl rfl rfl ?_)
  exact J.ret (Nrm.ret1 rfl (fun _ h => h) rfl fun B _ => Sub.refl _)
def fdES (w0 : World) (l : List (Dt × (List UInt8))) (d : Dt) (γ : Nat) (s : Nat × Nat) : Env :=
  [(0, .old w0 (row 3 (l.flatMap itS))), (2, .ex (.func (.func 78) #[] #[])), (4, .ex (ptr γ)), (8, .ex (vi l.length)), (9, .ex (vi s.1)), (10, .ex (vi s.2)), (1000, heap (newB w0) [obj γ [vi d.1, vi d.2]])]
theorem find_fnS (l : List (Dt × (List UInt8))) (hs : sortedD l) (hl : l.length ≤ 1000000) (d : Dt) :
    Spc Try.prog 77 [row 3 (l.flatMap itS), .ex (aggD d.1 d.2), .ex (.func (.func 78) #[] #[])] fun _ => .tup [.ex (vi (posD l d)), .ex (.bool (hereD l d))] := by
  refine Spc.intro Try.func77 rfl (Nat.le_of_ble_eq_true rfl) fun w0 => ?_
  have hI := hIb w0
  have hA := Own.below w0
  refine J.heap0 1000 (newB w0) ?_
  repeat (refine J.seq (J.region mixed hI (by kernel_rfl) ?_))
  refine Plan.boxC (key := 1000) rfl rfl rfl (by intro _ e; cases e; decide) rfl rfl hA fun γ => ?_
  repeat (first | refine Plan.move rfl rfl rfl rfl ?_ | refine Plan.assign rfl rfl rfl rfl ?_ | refine J.seq (J.region mixed hI (by kernel_rfl) ?_))
  refine Plan.lenRow (m := l.length) rfl rfl rfl rfl (Sub.old fun _ h => h) Try.underlying63 (by rw [flatMap_length _ 3 itLS]) (by decide) ?_
  repeat (first | refine Plan.move rfl rfl rfl rfl ?_ | refine Plan.assign rfl rfl rfl rfl ?_ | refine J.seq (J.region mixed hI (by kernel_rfl) ?_))
  refine J.seq (J.block (J.loop (fdES w0 l d γ) (fun s => s.1 ≤ s.2 ∧ s.2 ≤ l.length ∧ (∀ k x, l[k]? = some x → k < s.1 → dlt x.1 d) ∧ ∀ k x, l[k]? = some x → s.2 ≤ k → ¬ dlt x.1 d) (fun s => s.2 - s.1) (0, l.length) ⟨Nat.zero_le _, Nat.le_refl _, fun k x _ h => by simp at h, fun k x hx h => by have := (List.getElem?_eq_some_iff.1 hx).1; simp only at h; omega⟩ ?_ ?_))
  · repeat (first | exact Weak.nil | refine Weak.cons rfl (Sub.refl _) ?_)
  rintro ⟨i, j⟩ ⟨hij, hj, hlo, hhi⟩
  simp only at hij hj hlo hhi
  repeat (first | refine Plan.move rfl rfl rfl rfl ?_ | (refine Plan.ints rfl rfl rfl rfl rfl rfl ?_; (skip)) | refine J.seq (J.seq (J.region mixed hI (by kernel_rfl) ?_)))
  refine J.condD rfl (fun hc => ?_) (fun hc => ?_)
  · have hc' : i < j := by omega
    obtain ⟨h, hh⟩ : ∃ h, h = (i + j) / 2 := ⟨_, rfl⟩
    have hhl : h < l.length := by omega
    have hx : l[h]? = some l[h] := List.getElem?_eq_getElem hhl
    have hgd : l.getD h it0S = l[h] := by rw [List.getD_eq_getElem?_getD, hx]; rfl
    repeat (refine J.skip ?_)
    refine J.block ?_
    repeat (first | refine Plan.move rfl rfl rfl rfl ?_ | (refine Plan.ints rfl rfl rfl rfl rfl rfl ?_; (refine Plan.int (i64r (by omega)) ?_)) | (refine Plan.convInt rfl rfl rfl rfl (by exact Try.underlying3) (by first | exact Try.underlying3 | exact Try.underlying94) ?_; (refine Plan.int (u64r (by omega)) ?_)) | refine J.seq (J.region mixed hI (by kernel_rfl) ?_))
    refine Plan.int (y := ((i + j : Nat) : Int)) (by omega) ?_
    refine Plan.shrN (q := 1) rfl rfl rfl rfl rfl (by decide) ?_
    rw [show (i + j) / 2 ^ 1 = h by rw [hh]]
    repeat (first | refine Plan.move rfl rfl rfl rfl ?_ | refine Plan.assign rfl rfl rfl rfl ?_ | (refine Plan.convInt rfl rfl rfl rfl (by first | exact Try.underlying3 | exact Try.underlying94) (by exact Try.underlying3) ?_; (refine Plan.int (i64r (by omega)) ?_)) | refine J.seq (J.region mixed hI (by kernel_rfl) ?_))
    refine Plan.indexAddr itS 3 l it0S rfl rfl rfl rfl (Sub.old fun _ h => h) rfl eltItS itLS (by omega) (by omega) ?_
    rw [Int.toNat_natCast, hgd]
    refine Plan.loadAggP rfl rfl rfl rfl (Sub.refl _) Try.underlying66 rfl (by rw [itLS]; kernel_rfl) ?_
    refine Plan.loadAggC (key := 1000) (q := 0) (vs := [vi d.1, vi d.2]) rfl rfl rfl rfl rfl rfl (obj_reads rfl) Try.underlying28 rfl (by kernel_rfl) (by decide) ?_
    refine Plan.callFn rfl rfl rfl rfl (vals2 rfl rfl) Try.func78 rfl rfl (Spc.fnCalls (cmpAt_fnS l[h] d) (fun w _ => by simp [Fa.dens, Fa.den])) ?_
    repeat ((refine Plan.ints rfl rfl rfl rfl rfl rfl ?_; (skip)))
    refine J.condD rfl (fun hc2 => ?_) (fun hc2 => ?_)
    · have hlt : dlt l[h].1 d := (cmpD_lt _ _).1 hc2
      repeat (first | refine Plan.move rfl rfl rfl rfl ?_ | refine Plan.assign rfl rfl rfl rfl ?_ | (refine Plan.ints rfl rfl rfl rfl rfl rfl ?_; (refine Plan.int (i64r (by omega)) ?_)) | refine J.region mixed hI (by kernel_rfl) ?_)
      refine Plan.int (y := ((h + 1 : Nat) : Int)) (by omega) ?_
      repeat (fail)
      refine Nrm.next (h + 1, j) ⟨by simp only; omega, hj, fun k x hk hkh => ?_, hhi⟩ (by simp only; omega) (by repeat (first | exact Weak.nil | refine Weak.cons rfl (Sub.refl _) ?_))
      rcases Nat.lt_or_ge k h with h1 | h1
      · exact dlt_trans (sorted_at hs hk hx h1) hlt
      · have : k = h := by simp only at hkh; omega
        subst this; rw [hx] at hk; cases hk; exact hlt
    · have hlt : ¬ dlt l[h].1 d := fun hd => hc2 ((cmpD_lt _ _).2 hd)
      repeat (first | refine Plan.move rfl rfl rfl rfl ?_ | refine Plan.assign rfl rfl rfl rfl ?_ | refine J.region mixed hI (by kernel_rfl) ?_)
      refine Nrm.next (i, h) ⟨by simp only; omega, by simp only; omega, hlo, fun k x hk hkh => ?_⟩ (by simp only; omega) (by repeat (first | exact Weak.nil | refine Weak.cons rfl (Sub.refl _) ?_))
      rcases Nat.lt_or_ge h k with h1 | h1
      · exact fun hd => hlt (dlt_trans (sorted_at hs hx hk h1) hd)
      · have : k = h := by simp only at hkh; omega
        subst this; rw [hx] at hk; cases hk; exact hlt
  have hie : i = j := by omega
  subst hie
  have hpos : posD l d = i := posD_of hj hlo hhi
  refine J.exit ?_
  rw [hpos]
  have hhere : hereD l d = ((l[i]?).map fun x => decide (x.1 = d)).getD false := by unfold hereD; rw [hpos]
  repeat (first | refine Plan.move rfl rfl rfl rfl ?_ | (refine Plan.ints rfl rfl rfl rfl rfl rfl ?_; (skip)) | refine J.seq (J.region mixed hI (by kernel_rfl) ?_))
  refine Plan.splitD (fun hc2 => ?_) (fun hc2 => ?_)
  · have hil : i < l.length := by omega
    have hx : l[i]? = some l[i] := List.getElem?_eq_getElem hil
    have hgd : l.getD i it0S = l[i] := by rw [List.getD_eq_getElem?_getD, hx]; rfl
    rw [hx] at hhere
    repeat (refine Plan.move rfl rfl rfl rfl ?_)
    refine Plan.indexAddr itS 3 l it0S rfl rfl rfl rfl (Sub.old fun _ h => h) rfl eltItS itLS (by omega) (by omega) ?_
    rw [Int.toNat_natCast, hgd]
    refine Plan.loadAggP rfl rfl rfl rfl (Sub.refl _) Try.underlying66 rfl (by rw [itLS]; kernel_rfl) ?_
    refine Plan.loadAggC (key := 1000) (q := 0) (vs := [vi d.1, vi d.2]) rfl rfl rfl rfl rfl rfl (obj_reads rfl) Try.underlying28 rfl (by kernel_rfl) (by decide) ?_
    refine Plan.callFn rfl rfl rfl rfl (vals2 rfl rfl) Try.func78 rfl rfl (Spc.fnCalls (cmpAt_fnS l[i] d) (fun w _ => by simp [Fa.dens, Fa.den])) ?_
    repeat (first | refine Plan.assign rfl rfl rfl rfl ?_ | refine Plan.pick rfl rfl rfl rfl rfl ?_ | (refine Plan.ints rfl rfl rfl rfl rfl rfl ?_; (skip)))
    have hb : (cmpD l[i].1 d == 0) = hereD l d := by
      rw [hhere]; exact beq_decide (cmpD_eq _ _)
    refine Plan.boolv hb ?_
    repeat (fail)
    exact J.ret (Nrm.ret2 rfl (fun _ h => h) fun B hB => ⟨_, rfl, Ress.cons rfl (by exact Sub.refl _) (Ress.cons rfl (by exact Sub.refl _) Ress.nil)⟩)
  · have hx : l[i]? = none := List.getElem?_eq_none (by omega)
    rw [hx] at hhere
    rw [hhere]
    repeat (first | refine Plan.assign rfl rfl rfl rfl ?_ | refine Plan.skip rfl rfl ?_ | refine Plan.pick rfl rfl rfl rfl rfl ?_)
    exact J.ret (Nrm.ret2 rfl (fun _ h => h) fun B hB => ⟨_, rfl, Ress.cons rfl (by exact Sub.refl _) (Ress.cons rfl (by exact Sub.refl _) Ress.nil)⟩)
/-- A bag, where it lies. -/
def bagCS (β : Nat) (l : List (Dt × (List UInt8))) : Chunk := exC fun p : Option Addr × Nat => sepC (obj β [.slice p.1 l.length p.2]) (rowC 66 3 p.1 l.length p.2 (l.flatMap itS))
theorem place_fnS (β : Nat) (l : List (Dt × (List UInt8))) (hs : sortedD l) (hl : l.length ≤ 1000000) (d : Dt) : SpcR Try.prog 52 [.ex (ptr β), .ex (aggD d.1 d.2)] (bagCS β l) fun _ => .tup [.ex (vi (posD l d)), .ex (.bool (hereD l d))] := by
  refine SpcR.intro Try.func52 rfl (Nat.le_of_ble_eq_true rfl) fun w0 => ?_
  have hI := hIb w0
  refine J.exC (key := 1000) (q := 0) rfl rfl fun x => ?_
  refine J.sepC (key := 1000) (q := 0) rfl rfl ?_
  repeat (refine J.seq (J.region mixed hI (by kernel_rfl) ?_))
  refine Plan.boxP rfl rfl rfl rfl ?_
  repeat (first | refine Plan.move rfl rfl rfl rfl ?_ | refine Plan.assign rfl rfl rfl rfl ?_ | refine J.seq (J.seq (J.region mixed hI (by kernel_rfl) ?_)))
  refine Plan.eqlPtr rfl rfl rfl rfl (by kernel_rfl) ?_
  repeat (first | refine Plan.move rfl rfl rfl rfl ?_ | refine J.seq (J.region mixed hI (by kernel_rfl) ?_) | refine J.condF rfl ?_ | refine J.skip ?_)
  refine Plan.nilOk rfl rfl rfl rfl ?_
  refine Plan.fieldC rfl rfl rfl rfl (by exact Try.underlying105) rfl (by kernel_rfl) (by exact (rfl : _ = 0)) ?_
  refine Plan.loadRowC (key := 1000) (q := 0) (q2 := 1) rfl rfl rfl rfl rfl rfl (obj_reads1 rfl) rfl Try.underlying63 (by rfl) (by decide) ?_
  refine Plan.loadAggP rfl rfl rfl rfl (Sub.refl _) Try.underlying28 rfl (by kernel_rfl) ?_
  refine Plan.call (B := 0) rfl rfl rfl (find_fnS l hs hl d) Try.func77 rfl rfl (fun _ _ => Nat.zero_le _) (Opnds.cons rfl (Sub.refl _) (Opnds.cons rfl (Sub.refl _) (Opnds.cons rfl (Sub.refl _) Opnds.nil))) ?_
  repeat (first | refine Plan.assign rfl rfl rfl rfl ?_ | refine Plan.extract rfl rfl rfl rfl rfl ?_)
  exact J.ret (Nrm.ret2 rfl (fun _ h => h) fun B hB => ⟨_, rfl, Ress.cons rfl (by exact Sub.refl _) (Ress.cons rfl (by exact Sub.refl _) Ress.nil)⟩)
theorem place_nilS (d : Dt) : Spc Try.prog 52 [.ex (.pointer none), .ex (aggD d.1 d.2)] fun _ => .tup [.ex (vi 0), .ex (.bool false)] := by
  refine Spc.intro Try.func52 rfl (Nat.le_of_ble_eq_true rfl) fun w0 => ?_
  have hI := hIb w0
  repeat (refine J.seq (J.region mixed hI (by kernel_rfl) ?_))
  refine Plan.boxP rfl rfl rfl rfl ?_
  repeat (first | refine Plan.move rfl rfl rfl rfl ?_ | refine Plan.assign rfl rfl rfl rfl ?_ | refine Plan.eqlPtr rfl rfl rfl rfl (by kernel_rfl) ?_ | refine J.seq (J.region mixed hI (by kernel_rfl) ?_) | refine J.seq (J.seq (J.region mixed hI (by kernel_rfl) ?_)) | refine J.condT rfl ?_)
  exact J.ret (Nrm.ret2 rfl (fun _ h => h) fun B hB => ⟨_, rfl, Ress.cons rfl (by exact Sub.refl _) (Ress.cons rfl (by exact Sub.refl _) Ress.nil)⟩)
theorem len_fnS (β : Nat) (l : List (Dt × (List UInt8))) : SpcR Try.prog 55 [.ex (ptr β)] (bagCS β l) fun _ => .ex (vi l.length) := by
  refine SpcR.intro Try.func55 rfl (Nat.le_of_ble_eq_true rfl) fun w0 => ?_
  have hI := hIb w0
  refine J.exC (key := 1000) (q := 0) rfl rfl fun x => ?_
  refine J.sepC (key := 1000) (q := 0) rfl rfl ?_
  repeat (first | refine Plan.move rfl rfl rfl rfl ?_ | refine Plan.assign rfl rfl rfl rfl ?_ | refine Plan.nilOk rfl rfl rfl rfl ?_ | refine Plan.fieldC rfl rfl rfl rfl (by first | exact Try.underlying86 | exact Try.underlying105) rfl (by kernel_rfl) (by exact (rfl : _ = 0)) ?_ | refine Plan.loadC (key := 1000) (q := 0) rfl rfl rfl rfl rfl rfl (obj_reads1 rfl) (by first | exact Try.underlying3 | exact Try.underlying63) (by rfl) (by decide) ?_ | refine Plan.eqlPtr rfl rfl rfl rfl (by kernel_rfl) ?_ | refine J.seq (J.region mixed hI (by kernel_rfl) ?_) | refine J.seq (J.seq (J.region mixed hI (by kernel_rfl) ?_)) | refine J.condF rfl ?_ | refine J.skip ?_)
  refine Plan.lenE rfl rfl rfl rfl Try.underlying63 ?_
  repeat (refine Plan.assign rfl rfl rfl rfl ?_)
  exact J.ret (Nrm.ret1 rfl (fun _ h => h) rfl fun B _ => Sub.refl _)
theorem len_nilS : Spc Try.prog 55 [.ex (.pointer none)] fun _ => .ex (vi 0) := by
  refine Spc.intro Try.func55 rfl (Nat.le_of_ble_eq_true rfl) fun w0 => ?_
  have hI := hIb w0
  repeat (first | refine Plan.move rfl rfl rfl rfl ?_ | refine Plan.assign rfl rfl rfl rfl ?_ | refine Plan.eqlPtr rfl rfl rfl rfl (by kernel_rfl) ?_ | refine J.seq (J.region mixed hI (by kernel_rfl) ?_) | refine J.seq (J.seq (J.region mixed hI (by kernel_rfl) ?_)) | refine J.condT rfl ?_)
  exact J.ret (Nrm.ret1 rfl (fun _ h => h) rfl fun B _ => Sub.refl _)

theorem itOneS (x : Dt × (List UInt8)) : ∀ u ∈ itS x, u.oneCell' = true := by
  simp [itC, encTI, encTS, EvV.enc, str, Value.oneCell']
abbrev rowIS (B : Option Addr) (n cap : Nat) (xs : List Value) : Chunk := rowC 66 3 B n cap xs
theorem insert_fnS (B : Option Addr) (cap vb vc : Nat) (l : List (Dt × (List UInt8))) (hl : l.length ≤ 1000000) (i : Nat) (hi : i ≤ l.length) (y : Dt × (List UInt8)) :
    SpcC Try.prog 53 [.ex (.slice B l.length cap), .ex (vi i), .ex (.slice (some ⟨vb, 0, none⟩) 1 vc)] (sepC (rowIS B l.length cap (l.flatMap itS)) (rowIS (some ⟨vb, 0, none⟩) 1 vc (itS y)))
      (fun _ : Option Addr × Nat => True) (fun x => .ex (.slice x.1 (l.length + 1) x.2)) (fun x => rowIS x.1 (l.length + 1) x.2 ((insD l i y).flatMap itS)) := by
  refine SpcC.intro2 Try.func53 rfl (Nat.le_of_ble_eq_true rfl) fun w1 F args hd hc => ?_
  have hI := kept_below F w1
  have hA := Own.kept F w1
  refine J.sepC (key := 1000) (q := 0) rfl rfl ?_
  refine J.factC (key := 1000) (q := 0) rfl rfl (fun w F h => row_room h) fun hrm => ?_
  obtain ⟨hr1, hr2, hr3, hr4, hr5⟩ := hrm
  refine J.factC (key := 1000) (q := 1) rfl rfl (fun w F h => row_room h) fun hrv => ?_
  obtain ⟨-, hv2, hv3, -, -⟩ := hrv
  repeat (first | refine Plan.move rfl rfl rfl rfl ?_ | refine Plan.assign rfl rfl rfl rfl ?_ | refine J.seq (J.region mixed hI (by kernel_rfl) ?_))
  refine Plan.sliceAny rfl rfl rfl rfl eltItS rfl hi ?_
  repeat (first | refine Plan.move rfl rfl rfl rfl ?_ | refine J.seq (J.region mixed hI (by kernel_rfl) ?_))
  refine Plan.lenE rfl rfl rfl rfl Try.underlying63 ?_
  repeat (first | refine Plan.move rfl rfl rfl rfl ?_ | refine Plan.assign rfl rfl rfl rfl ?_ | (refine Plan.ints rfl rfl rfl rfl rfl rfl ?_; (skip)) | refine J.seq (J.region mixed hI (by kernel_rfl) ?_) | refine J.seq (J.seq (J.region mixed hI (by kernel_rfl) ?_)) | refine J.condF rfl ?_ | refine J.skip ?_)
  refine Plan.lenE rfl rfl rfl rfl Try.underlying63 ?_
  repeat (first | refine Plan.move rfl rfl rfl rfl ?_ | refine Plan.assign rfl rfl rfl rfl ?_ | (refine Plan.ints rfl rfl rfl rfl rfl rfl ?_; (skip)) | refine J.seq (J.seq (J.region mixed hI (by kernel_rfl) ?_)))
  refine J.condE rfl (fun hin => ?_) (fun hin => ?_)
  · have hin' : i = l.length := by omega
    subst hin'
    refine J.seeC (t := 2) (key := 1000) (q := 1) rfl rfl rfl (fun w F h => row_rowH h) ?_
    repeat (first | refine Plan.move rfl rfl rfl rfl ?_ | refine J.seq (J.region mixed hI (by kernel_rfl) ?_))
    refine Plan.appendC (key := 1000) (q := 0) rfl rfl rfl rfl rfl (Sub.refl _) eltItS (by intro _ e; cases e; decide) rfl hA rfl (itOneS y) (by rw [flat_len itLS, itLS]; omega) fun B' m' cap' hm' => ?_
    have hm2 : m' = l.length + 1 := by rw [flat_len itLS, itLS] at hm'; omega
    subst hm2
    repeat (refine Plan.assign rfl rfl rfl rfl ?_)
    refine J.ret (Nrm.retC1 (key := 1000) (B', cap') rfl rfl rfl trivial (Sub.refl _) (Ent.trans Ent.left (Ent.rowEq (by simp [insD]))))
  have hlt : i < l.length := by omega
  obtain ⟨g, rfl⟩ : ∃ g, B = some ⟨g, 0, none⟩ := by
    cases B with
    | none => have := (hr4 rfl).1; omega
    | some ad => exact ⟨ad.block, by rw [← hr5 ad rfl]⟩
  refine J.convC (key := 1000) (q := 0) rfl rfl row_blk ?_
  refine J.exC (key := 1000) (q := 0) rfl rfl fun rest => ?_
  refine J.purC (key := 1000) (q := 0) rfl rfl fun hrest => ?_
  refine J.convC (key := 1000) (q := 1) rfl rfl row_blk ?_
  refine J.exC (key := 1000) (q := 1) rfl rfl fun rest2 => ?_
  refine J.purC (key := 1000) (q := 1) rfl rfl fun hrest2 => ?_
  have hfl := flat_len itLS l
  have hyl := itLS y
  have hrl := hrest.1
  rw [List.length_append] at hrl
  have e1 := flat_take itLS l i hi rest
  have hpl : ((l.take i).flatMap itS).length = i * 3 := by rw [flat_len itLS, List.length_take, Nat.min_eq_left hi]
  have hdl : ((l.drop i).flatMap itS).length = (l.length - i) * 3 := by rw [flat_len itLS, List.length_drop]
  have hone : ∀ u ∈ (l.drop i).flatMap itS, u.oneCell' = true := fun u hu => by
    obtain ⟨x, _, hx⟩ := List.mem_flatMap.1 hu
    exact itOneS x u hx
  repeat (first | refine Plan.move rfl rfl rfl rfl ?_ | (refine Plan.ints rfl rfl rfl rfl rfl rfl ?_; (refine Plan.int (i64r (by omega)) ?_)) | refine J.seq (J.seq (J.region mixed hI (by kernel_rfl) ?_)) | refine J.skip ?_)
  refine Plan.capE rfl rfl rfl rfl Try.underlying63 ?_
  repeat ((refine Plan.ints rfl rfl rfl rfl rfl rfl ?_; (skip)))
  refine J.condD rfl (fun hroom => ?_) (fun hroom => ?_)
  · repeat (first | refine Plan.move rfl rfl rfl rfl ?_ | refine J.seq (J.region mixed hI (by kernel_rfl) ?_))
    refine Plan.sliceHi (b0 := i) rfl rfl rfl rfl eltItS rfl (by omega) ?_
    repeat (first | refine Plan.move rfl rfl rfl rfl ?_ | (refine Plan.ints rfl rfl rfl rfl rfl rfl ?_; (refine Plan.int (i64r (by omega)) ?_)))
    refine Plan.int (y := ((l.length + 1 - i : Nat) : Int)) (by omega) ?_
    refine Plan.appendZ (key := 1000) (q := 0) rfl rfl rfl (by intro _ e; cases e; decide) rfl rfl eltItS Try.underlying3 rfl hA rfl (by rw [List.length_append]; omega) (by omega) (by omega) (by omega) fun β cap' rest3 h1 h2 h3 => ?_
    rw [show i + (l.length + 1 - i) = l.length + 1 by omega, e1]
    repeat (first | refine Plan.move rfl rfl rfl rfl ?_ | refine Plan.assign rfl rfl rfl rfl ?_ | refine J.seq (J.region mixed hI (by kernel_rfl) ?_))
    refine Plan.sliceLo rfl rfl rfl rfl eltItS rfl (by omega) (by omega) (by omega) ?_
    repeat (refine Plan.move rfl rfl rfl rfl ?_)
    refine Plan.copyC (key := 1000) (q := 2) (q2 := 1) (cnt := 1) (news := itS y) rfl rfl rfl (by intro _ e; cases e; decide) rfl rfl eltItS rfl hA rfl rfl (blk_reads (by simp [hyl])) (by simp only [Nat.min_def]; split <;> omega) (by rw [hyl]) (itOneS y) (by rw [List.length_append, hpl, h3, hyl]; omega) ?_
    rw [show 0 + i * 3 = i * 3 by omega, splice hpl]
    repeat (first | refine Plan.move rfl rfl rfl rfl ?_ | (refine Plan.ints rfl rfl rfl rfl rfl rfl ?_; (refine Plan.int (i64r (by omega)) ?_)) | refine J.seq (J.region mixed hI (by kernel_rfl) ?_))
    refine Plan.sliceLo (a0 := i + 1) rfl rfl rfl rfl eltItS rfl (by omega) (by omega) (by omega) ?_
    repeat (refine Plan.move rfl rfl rfl rfl ?_)
    refine Plan.sliceLo rfl rfl rfl rfl eltItS rfl (by omega) (by omega) (by omega) ?_
    have hPl : ((l.take i).flatMap itS ++ itS y).length = (i + 1) * 3 := by rw [List.length_append, hpl, hyl]; omega
    have hR3 : (rest3.drop (itS y).length).length = (cap' - i - 1) * 3 := by rw [List.length_drop, h3, hyl]; omega
    rw [← List.append_assoc]
    refine Plan.copyC (key := 1000) (q := 2) (q2 := 0) (cnt := l.length - i) (news := (l.drop i).flatMap itS) rfl rfl rfl (by intro _ e; cases e; decide) rfl rfl eltItS rfl hA rfl rfl (blk_reads (by rw [show 0 + i * 3 = i * 3 by omega]; exact flat_mid itLS l i hi rest)) (by simp only [Nat.min_def]; split <;> omega) hdl hone (by rw [List.length_append, hPl, hdl, hR3]; omega) ?_
    rw [show 0 + (i + 1) * 3 = (i + 1) * 3 by omega, splice hPl, ← List.append_assoc]
    have hins : (insD l i y).flatMap itS = (l.take i).flatMap itS ++ itS y ++ (l.drop i).flatMap itS := by simp [insD]
    repeat (first | refine Plan.move rfl rfl rfl rfl ?_ | refine Plan.assign rfl rfl rfl rfl ?_ | refine J.seq (J.region mixed hI (by kernel_rfl) ?_))
    refine J.ret (Nrm.retC1 (key := 1000) (some ⟨β, 0, none⟩, cap') rfl rfl rfl trivial (Sub.refl _) (Ent.right.trans (Ent.right.trans (Ent.left.trans ?_))))
    rw [hins]
    exact blk_row (by rw [List.length_append, List.length_append, hPl, hdl, List.length_drop, hR3]; show _ = cap' * 3; omega) (by rw [List.length_append, hPl, hdl]; omega) (show _ ≤ cap' by omega) (show cap' ≤ _ by omega)
  repeat (first | refine Plan.move rfl rfl rfl rfl ?_ | (refine Plan.ints rfl rfl rfl rfl rfl rfl ?_; (refine Plan.int (i64r (by omega)) ?_)) | refine J.seq (J.region mixed hI (by kernel_rfl) ?_) | refine J.skip ?_)
  refine Plan.sliceHi (b0 := l.length + 1) rfl rfl rfl rfl eltItS rfl (by omega) ?_
  repeat (first | refine Plan.move rfl rfl rfl rfl ?_ | refine Plan.assign rfl rfl rfl rfl ?_ | (refine Plan.ints rfl rfl rfl rfl rfl rfl ?_; (refine Plan.int (i64r (by omega)) ?_)) | refine J.seq (J.seq (J.region mixed hI (by kernel_rfl) ?_)))
  refine Plan.sliceLo (a0 := i + 1) rfl rfl rfl rfl eltItS rfl (by omega) (by omega) (by omega) ?_
  repeat (fail)
  refine Plan.overlapsC (key := 1000) (q := 1) (q2 := 0) rfl rfl rfl rfl rfl rfl rfl rfl rfl rfl eltItS rfl rfl rfl (by decide) (by rw [List.length_append]; omega) (Nat.le_of_ble_eq_true rfl) ?_
  repeat (first | refine Plan.move rfl rfl rfl rfl ?_ | (refine Plan.ints rfl rfl rfl rfl rfl rfl ?_; (refine Plan.int (i64r (by omega)) ?_)) | refine Plan.un rfl rfl rfl rfl rfl ?_ | refine J.seq (J.region mixed hI (by kernel_rfl) ?_) | refine J.condT rfl ?_)
  refine Plan.sliceLo (a0 := i + 1) rfl rfl rfl rfl eltItS rfl (by omega) (by omega) (by omega) ?_
  repeat (refine Plan.move rfl rfl rfl rfl ?_)
  refine Plan.sliceLo rfl rfl rfl rfl eltItS rfl (by omega) (by omega) (by omega) ?_
  have hL0 : (l.flatMap itS ++ rest).length = cap * 3 := hrest.1
  refine Plan.copyC (key := 1000) (q := 0) (q2 := 0) (cnt := l.length - i) (news := (l.drop i).flatMap itS) rfl rfl rfl (by intro _ e; cases e; decide) rfl rfl eltItS rfl hA rfl rfl (blk_reads (by rw [show 0 + i * 3 = i * 3 by omega]; exact flat_mid itLS l i hi rest)) (by simp only [Nat.min_def]; split <;> omega) hdl hone (by rw [hL0, hdl]; omega) ?_
  obtain ⟨mid, hmid⟩ : ∃ mid, mid = (l.flatMap itS ++ rest).take (0 + (i + 1) * 3) ++ (l.drop i).flatMap itS ++ (l.flatMap itS ++ rest).drop (0 + (i + 1) * 3 + ((l.drop i).flatMap itS).length) := ⟨_, rfl⟩
  rw [← hmid]
  have hmidl : mid.length = cap * 3 := by rw [hmid, List.length_append, List.length_append, List.length_take, List.length_drop, hL0, hdl, Nat.min_eq_left (by omega)]; omega
  repeat (first | refine Plan.move rfl rfl rfl rfl ?_ | refine J.seq (J.region mixed hI (by kernel_rfl) ?_))
  refine Plan.sliceLo (a0 := i) rfl rfl rfl rfl eltItS rfl (by omega) (by omega) (by omega) ?_
  repeat (refine Plan.move rfl rfl rfl rfl ?_)
  refine Plan.copyC (key := 1000) (q := 0) (q2 := 1) (cnt := 1) (news := itS y) rfl rfl rfl (by intro _ e; cases e; decide) rfl rfl eltItS rfl hA rfl rfl (blk_reads (by simp [hyl])) (by simp only [Nat.min_def]; split <;> omega) (by rw [hyl]) (itOneS y) (by rw [hmidl, hyl]; omega) ?_
  obtain ⟨tail, ht⟩ : ∃ tail, tail = (l.flatMap itS ++ rest).drop (0 + (i + 1) * 3 + ((l.drop i).flatMap itS).length) := ⟨_, rfl⟩
  have htl : tail.length = cap * 3 - ((i + 1) * 3 + (l.length - i) * 3) := by rw [ht, List.length_drop, hL0, hdl]; omega
  have hins : (insD l i y).flatMap itS = (l.take i).flatMap itS ++ itS y ++ (l.drop i).flatMap itS := by simp [insD]
  have hfin : mid.take (0 + i * 3) ++ itS y ++ mid.drop (0 + i * 3 + (itS y).length) = (insD l i y).flatMap itS ++ tail := by
    have hm : mid = (l.flatMap itS ++ rest).take ((i + 1) * 3) ++ ((l.drop i).flatMap itS ++ tail) := by rw [hmid, ht, List.append_assoc, Nat.zero_add]
    have hk1 : ((l.flatMap itS ++ rest).take ((i + 1) * 3)).length = (i + 1) * 3 := by rw [List.length_take, hL0, Nat.min_eq_left (by omega)]
    have a1 : mid.take (0 + i * 3) = (l.take i).flatMap itS := by
      rw [hm, Nat.zero_add, List.take_append_of_le_length (by rw [hk1]; omega), List.take_take, Nat.min_eq_left (by omega), e1]
    have a2 : mid.drop (0 + i * 3 + (itS y).length) = (l.drop i).flatMap itS ++ tail := by
      rw [hm, show 0 + i * 3 + (itS y).length = (i + 1) * 3 by rw [hyl]; omega, List.drop_left' hk1]
    rw [a1, a2, hins]; simp only [List.append_assoc]
  rw [hfin]
  repeat (first | refine Plan.move rfl rfl rfl rfl ?_ | refine Plan.assign rfl rfl rfl rfl ?_ | refine J.seq (J.region mixed hI (by kernel_rfl) ?_))
  have hil : ((insD l i y).flatMap itS).length = (l.length + 1) * 3 := by rw [flat_len itLS, insD_length]
  refine J.ret (Nrm.retC1 (key := 1000) (some ⟨g, 0, none⟩, cap) rfl rfl rfl trivial (Sub.refl _) (Ent.left.trans ?_))
  exact blk_row (by rw [List.length_append, hil, htl]; show _ = cap * 3; omega) hil (show _ ≤ cap by omega) (show cap ≤ _ by omega)

theorem delete_fnS (g cap : Nat) (l : List (Dt × (List UInt8))) (i : Nat) (hi : i < l.length) (hl : l.length ≤ 1000000) :
    SpcC Try.prog 54 [.ex (.slice (some ⟨g, 0, none⟩) l.length cap), .ex (vi i), .ex (vi (i + 1 : Nat))] (rowIS (some ⟨g, 0, none⟩) l.length cap (l.flatMap itS))
      (fun _ : Unit => True) (fun _ => .ex (.slice (some ⟨g, 0, none⟩) (l.length - 1) cap)) (fun _ => rowIS (some ⟨g, 0, none⟩) (l.length - 1) cap ((l.eraseIdx i).flatMap itS)) := by
  refine SpcC.intro2 Try.func54 rfl (Nat.le_of_ble_eq_true rfl) fun w1 F args hd hc => ?_
  have hI := kept_below F w1
  have hA := Own.kept F w1
  refine J.convC (key := 1000) (q := 0) rfl rfl row_blk ?_
  refine J.exC (key := 1000) (q := 0) rfl rfl fun rest => ?_
  refine J.purC (key := 1000) (q := 0) rfl rfl fun hrest => ?_
  obtain ⟨hr1, hr2, hr3, hr4⟩ := hrest
  have hfl := flat_len itLS l
  have e1 := flat_take itLS l i (by omega) rest
  have hpl : ((l.take i).flatMap itS).length = i * 3 := by rw [flat_len itLS, List.length_take, Nat.min_eq_left (by omega)]
  have hdl : ((l.drop (i + 1)).flatMap itS).length = (l.length - (i + 1)) * 3 := by rw [flat_len itLS, List.length_drop]
  have hone : ∀ u ∈ (l.drop (i + 1)).flatMap itS, u.oneCell' = true := fun u hu => by
    obtain ⟨x, _, hx⟩ := List.mem_flatMap.1 hu
    exact itOneS x u hx
  have hdel : (l.eraseIdx i).flatMap itS = (l.take i).flatMap itS ++ (l.drop (i + 1)).flatMap itS := by rw [List.eraseIdx_eq_take_drop_succ, List.flatMap_append]
  repeat (first | refine Plan.move rfl rfl rfl rfl ?_ | refine Plan.assign rfl rfl rfl rfl ?_ | refine J.seq (J.region mixed hI (by kernel_rfl) ?_))
  refine Plan.lenE rfl rfl rfl rfl Try.underlying63 ?_
  repeat (fail)
  refine Plan.slice3 (a0 := i) (b0 := i + 1) (c0 := l.length) rfl rfl rfl rfl eltItS rfl rfl rfl (by omega) (by omega) (by omega) ?_
  repeat (first | refine Plan.move rfl rfl rfl rfl ?_ | (refine Plan.ints rfl rfl rfl rfl rfl rfl ?_; (skip)) | refine J.seq (J.seq (J.region mixed hI (by kernel_rfl) ?_)))
  refine J.condE rfl (fun hc => by omega) (fun _ => ?_)
  repeat (first | refine Plan.move rfl rfl rfl rfl ?_ | refine J.seq (J.region mixed hI (by kernel_rfl) ?_) | refine J.skip ?_)
  refine Plan.lenE rfl rfl rfl rfl Try.underlying63 ?_
  repeat (first | refine Plan.move rfl rfl rfl rfl ?_ | refine Plan.assign rfl rfl rfl rfl ?_ | refine J.seq (J.region mixed hI (by kernel_rfl) ?_))
  refine Plan.sliceHi (b0 := i) rfl rfl rfl rfl eltItS rfl (by omega) ?_
  repeat (refine Plan.move rfl rfl rfl rfl ?_)
  refine Plan.sliceLoB (a0 := i + 1) rfl rfl rfl rfl eltItS rfl (by omega) ?_
  refine Plan.appendBlk (key := 1000) (q := 0) (q2 := 0) (news := (l.drop (i + 1)).flatMap itS) rfl rfl rfl (by intro _ e; cases e; decide) rfl rfl eltItS rfl hA rfl rfl (blk_reads ?_) hdl hone (by omega) (by rw [hr1, hdl]; omega) ?_
  · by_cases hcap : cap = i + 1
    · have : (l.drop (i + 1)).flatMap itS = [] := List.eq_nil_of_length_eq_zero (by rw [hdl, show l.length - (i + 1) = 0 by omega, Nat.zero_mul])
      rw [this]; rfl
    · rw [if_neg hcap, Nat.zero_add]; exact flat_mid itLS l (i + 1) (by omega) rest
  obtain ⟨rest2, hrest2⟩ : ∃ r, r = (l.flatMap itS ++ rest).drop (i * 3 + ((l.drop (i + 1)).flatMap itS).length) := ⟨_, rfl⟩
  rw [← hrest2, e1, ← hdel, show i + (l.length - (i + 1)) = l.length - 1 by omega]
  have hel : ((l.eraseIdx i).flatMap itS).length = (l.length - 1) * 3 := by rw [hdel, List.length_append, hpl, hdl]; omega
  have hr2l : rest2.length = (cap - (l.length - 1)) * 3 := by rw [hrest2, List.length_drop, hr1, hdl]; omega
  repeat (first | refine Plan.move rfl rfl rfl rfl ?_ | refine Plan.assign rfl rfl rfl rfl ?_ | refine J.seq (J.region mixed hI (by kernel_rfl) ?_))
  refine Plan.lenE rfl rfl rfl rfl Try.underlying63 ?_
  repeat (refine Plan.move rfl rfl rfl rfl ?_)
  refine Plan.sliceMid (a0 := l.length - 1) (b0 := l.length) rfl rfl rfl rfl eltItS rfl rfl (by omega) (by omega) (by omega) ?_
  refine Plan.clearC (key := 1000) (q := 0) rfl rfl rfl rfl rfl eltItS rfl hA rfl (fun u hu => itOneS it0S u hu) (by rw [List.length_append, hel, hr2l]; omega) fun zs hzs => ?_
  have hfin : ((l.eraseIdx i).flatMap itS ++ rest2).take (0 + (l.length - 1) * 3) ++ zs ++ ((l.eraseIdx i).flatMap itS ++ rest2).drop (0 + (l.length - 1) * 3 + (l.length - (l.length - 1)) * 3) = (l.eraseIdx i).flatMap itS ++ (zs ++ rest2.drop 3) := by
    rw [Nat.zero_add, List.take_left' hel, show (l.length - 1) * 3 + (l.length - (l.length - 1)) * 3 = ((l.eraseIdx i).flatMap itS).length + 3 by rw [hel]; omega, ← List.drop_drop, List.drop_left, List.append_assoc]
  rw [hfin]
  repeat (first | refine Plan.move rfl rfl rfl rfl ?_ | refine Plan.assign rfl rfl rfl rfl ?_ | refine J.seq (J.region mixed hI (by kernel_rfl) ?_))
  refine J.ret (Nrm.retC1 (key := 1000) () rfl rfl rfl trivial (Sub.refl _) (Ent.left.trans ?_))
  exact blk_row (by rw [List.length_append, List.length_append, hel, hzs, List.length_drop, hr2l]; show _ = cap * 3; omega) hel (show _ ≤ cap by omega) (show cap ≤ _ by omega)

theorem bag_closeS {β cap : Nat} {l : List (Dt × (List UInt8))} {B : Option Addr} : Ent (allC [obj β [.slice B l.length cap], rowIS B l.length cap (l.flatMap itS)]) (bagCS β l) :=
  Ent.ex (B, cap) (Ent.sep (Ent.refl _) Ent.one)
theorem new_fnS : SpcC Try.prog 30 [] emp (fun _ : Nat => True) (fun β => .ex (ptr β)) (fun β => bagCS β []) := by
  refine SpcC.intro Try.func30 rfl (Nat.le_of_ble_eq_true rfl) fun w0 F => ?_
  have hI := kept_below F w0
  have hA := Own.kept F w0
  repeat (first | refine Plan.assign rfl rfl rfl rfl ?_ | refine J.seq (J.region mixed hI (by kernel_rfl) ?_))
  refine Plan.build rfl rfl rfl Parts.nil (cells := #[.slice none 0 0]) (by kernel_rfl) ?_
  refine Plan.boxC (key := 1000) rfl rfl rfl (by intro _ e; cases e; decide) rfl rfl hA fun β => ?_
  repeat (refine Plan.assign rfl rfl rfl rfl ?_)
  refine fun a w h1 h2 h3 => ?_
  refine J.nilRow (key := 1000) 66 3 rfl ?_ a w h1 h2 h3
  exact J.ret (Nrm.retC1 (key := 1000) β rfl rfl rfl trivial (Sub.refl _) (Ent.right.trans (bag_closeS (l := []) (cap := 0) (B := none))))
theorem put_fnS (β : Nat) (l : List (Dt × (List UInt8))) (hs : sortedD l) (hl : l.length ≤ 1000000) (d : Dt) (x : (List UInt8)) :
    SpcC Try.prog 31 [.ex (ptr β), .ex (aggD d.1 d.2), .ex (str x)] (bagCS β l) (fun _ : Unit => True) (fun _ => Fa.any) (fun _ => bagCS β (putD l d x)) := by
  refine SpcC.introLow Try.func31 rfl (Nat.le_of_ble_eq_true rfl) fun w0 F => ?_
  have hI := kept_below F w0
  have hA := Own.kept F w0
  repeat (refine J.seq (J.region mixed hI (by kernel_rfl) ?_))
  refine Plan.boxP rfl rfl rfl rfl ?_
  repeat (first | refine Plan.move rfl rfl rfl rfl ?_ | refine Plan.eqlPtr rfl rfl rfl rfl (by kernel_rfl) ?_ | refine J.seq (J.region mixed hI (by kernel_rfl) ?_) | refine J.seq (J.seq (J.region mixed hI (by kernel_rfl) ?_)) | refine J.condF rfl ?_ | refine J.skip ?_)
  refine Plan.loadAggP rfl rfl rfl rfl (Sub.refl _) Try.underlying28 rfl (by kernel_rfl) ?_
  refine Plan.callR (key := 1000) (B := 0) (q := 0) rfl rfl rfl (place_fnS β l hs hl d) Try.func52 rfl rfl (fun _ _ => Nat.zero_le _) (by repeat (first | exact Opnds.nil | refine Opnds.cons rfl (by exact Sub.refl _) ?_)) rfl rfl (by decide) ?_
  repeat (first | refine Plan.move rfl rfl rfl rfl ?_ | refine Plan.assign rfl rfl rfl rfl ?_ | refine Plan.extract rfl rfl rfl rfl rfl ?_ | refine J.seq (J.seq (J.region mixed hI (by kernel_rfl) ?_)))
  refine J.exC (key := 1000) (q := 0) rfl rfl fun p => ?_
  refine J.sepC (key := 1000) (q := 0) rfl rfl ?_
  refine J.factC (key := 1000) (q := 1) rfl rfl (fun w F h => row_room h) fun hrm => ?_
  obtain ⟨B, cap⟩ := p
  dsimp only at hrm ⊢
  refine J.cond rfl (fun hh => ?_) (fun hh => ?_)
  · obtain ⟨y, hy, hyd⟩ := here_at hh
    have hlt : posD l d < l.length := (List.getElem?_eq_some_iff.1 hy).1
    obtain ⟨g, rfl⟩ : ∃ g, B = some ⟨g, 0, none⟩ := by
      cases B with
      | none => have := (hrm.2.2.2.1 rfl).1; omega
      | some ad => exact ⟨ad.block, by rw [← hrm.2.2.2.2 ad rfl]⟩
    have hput : putD l d x = l.set (posD l d) (d, x) := by unfold putD; rw [if_pos hh]
    have hsf := set_flat (enc := encTS) itLS l (posD l d) y x hy (posD l d * 3 + 2) rfl
    rw [hyd, ← hput] at hsf
    have hlen : (putD l d x).length = l.length := by rw [hput, List.length_set]
    refine J.unlow (key := 1000) rfl ?_
    repeat (first | refine Plan.move rfl rfl rfl rfl ?_ | refine Plan.nilOk rfl rfl rfl rfl ?_ | refine Plan.fieldC rfl rfl rfl rfl (by first | exact Try.underlying86 | exact Try.underlying105) rfl (by kernel_rfl) (by exact (rfl : _ = 0)) ?_ | refine Plan.loadC (key := 1000) (q := 0) rfl rfl rfl rfl rfl rfl (obj_reads1 rfl) (by first | exact Try.underlying3 | exact Try.underlying63) (by rfl) (by decide) ?_ | refine J.seq (J.region mixed hI (by kernel_rfl) ?_))
    refine Plan.indexC (off := posD l d * 3) rfl rfl rfl rfl rfl eltItS hlt (by omega) ?_
    refine Plan.fieldC (off := posD l d * 3 + 2) rfl rfl rfl rfl (by exact Try.underlying66) rfl (by kernel_rfl) rfl ?_
    refine Plan.storeC (key := 1000) (q := 1) (off := posD l d * 3 + 2) rfl rfl rfl rfl rfl rfl (fun u hu => itOneS (d, x) u (List.mem_cons_of_mem _ (List.mem_cons_of_mem _ hu))) (by kernel_rfl) rfl hA rfl (row_pat (by rw [flat_len itLS]; show posD l d * 3 + 2 + (3 - 2) ≤ _; omega)) ?_
    repeat (fail)
    refine J.ret (Nrm.retC0 (key := 1000) () rfl rfl rfl trivial ?_ (.inr rfl))
    refine Ent.trans (Ent.sep (Ent.refl _) (Ent.sep (Ent.rowEq hsf) (Ent.refl _))) ?_
    have := bag_closeS (β := β) (cap := cap) (l := putD l d x) (B := some ⟨g, 0, none⟩)
    rw [hlen] at this
    exact this
  · have hput : putD l d x = insD l (posD l d) (d, x) := by unfold putD; rw [if_neg (by rw [hh]; decide)]
    have hlen : (putD l d x).length = l.length + 1 := by rw [hput, insD_length]
    refine J.skip ?_
    refine J.loose2 [(0, ptr β)] [(0, .ex (ptr β))] mixed hI rfl rfl rfl (by kernel_rfl) (by kernel_rfl) (by kernel_rfl) rfl rfl (fun ⟨_, _, h⟩ => h) (fun _ _ _ _ h => h) (by repeat (first | exact Weak.nil | refine Weak.cons rfl (Sub.refl _) ?_)) ?_ ?_
    · exact Gives.cons [(0, .ex (ptr β))] (by kernel_rfl) rfl (by kernel_rfl) (Plan.move rfl rfl rfl rfl (Plan.gives rfl)) Gives.nil
    repeat (first | refine Plan.move rfl rfl rfl rfl ?_ | refine Plan.assign rfl rfl rfl rfl ?_ | refine Plan.nilOk rfl rfl rfl rfl ?_ | refine Plan.fieldC rfl rfl rfl rfl (by first | exact Try.underlying86 | exact Try.underlying105) rfl (by kernel_rfl) (by exact (rfl : _ = 0)) ?_ | refine Plan.loadC (key := 1000) (q := 0) rfl rfl rfl rfl rfl rfl (obj_reads1 rfl) (by exact Try.underlying63) (by rfl) (by decide) ?_)
    refine Plan.loadAggP rfl rfl rfl rfl (Sub.refl _) Try.underlying28 rfl (by kernel_rfl) ?_
    repeat (refine Plan.move rfl rfl rfl rfl ?_)
    refine Plan.build rfl rfl rfl (Parts.cons rfl (Parts.cons rfl Parts.nil)) (cells := (itS (d, x)).toArray) (by kernel_rfl) ?_
    refine Plan.litTight (B := w0.heap.size) (m := 1) rfl rfl rfl eltItS rfl (fun w h => h.size) rfl (fun v hv => by rw [List.mem_singleton.1 hv]; rfl) (by decide) ?_
    refine Plan.callOwn (key := 1000) (q := 1) (t := 34) rfl rfl rfl (fun g => insert_fnS B cap g 1 l hl (posD l d) (posD_le l d) (d, x)) Try.func53 rfl rfl (by intro _ e; cases e; decide) rfl (Sub.refl _) (fun g => by repeat (first | exact Opnds.nil | refine Opnds.cons rfl (by exact Sub.refl _) ?_)) rfl hA (fun b hb => .inr hb) rfl fun y _ => ?_
    repeat (first | refine Plan.nilOk rfl rfl rfl rfl ?_ | refine Plan.fieldC rfl rfl rfl rfl (by first | exact Try.underlying86 | exact Try.underlying105) rfl (by kernel_rfl) (by exact (rfl : _ = 0)) ?_)
    refine Plan.storeC (key := 1000) (q := 0) rfl rfl rfl rfl rfl rfl (by simp [Value.cells, Value.oneCell', str]) (by kernel_rfl) rfl hA rfl (obj_pat1 (Nat.le_of_ble_eq_true rfl)) ?_
    rw [← hput, ← hlen]
    exact Nrm.retC0 (key := 1000) () rfl rfl rfl trivial (bag_closeS (B := y.1) (cap := y.2)) (.inl rfl)
theorem remove_fnS (β : Nat) (l : List (Dt × (List UInt8))) (hs : sortedD l) (hl : l.length ≤ 1000000) (d : Dt) :
    SpcC Try.prog 32 [.ex (ptr β), .ex (aggD d.1 d.2)] (bagCS β l) (fun _ : Unit => True) (fun _ => .ex (.bool (hereD l d))) (fun _ => bagCS β (remD l d)) := by
  refine SpcC.intro Try.func32 rfl (Nat.le_of_ble_eq_true rfl) fun w0 F => ?_
  have hI := kept_below F w0
  have hA := Own.kept F w0
  repeat (refine J.seq (J.region mixed hI (by kernel_rfl) ?_))
  refine Plan.boxP rfl rfl rfl rfl ?_
  repeat (first | refine Plan.move rfl rfl rfl rfl ?_ | refine Plan.assign rfl rfl rfl rfl ?_ | refine J.seq (J.region mixed hI (by kernel_rfl) ?_))
  refine Plan.loadAggP rfl rfl rfl rfl (Sub.refl _) Try.underlying28 rfl (by kernel_rfl) ?_
  refine Plan.callR (key := 1000) (B := 0) (q := 0) rfl rfl rfl (place_fnS β l hs hl d) Try.func52 rfl rfl (fun _ _ => Nat.zero_le _) (by repeat (first | exact Opnds.nil | refine Opnds.cons rfl (by exact Sub.refl _) ?_)) rfl rfl (by decide) ?_
  repeat (first | refine Plan.move rfl rfl rfl rfl ?_ | refine Plan.assign rfl rfl rfl rfl ?_ | refine Plan.extract rfl rfl rfl rfl rfl ?_ | refine J.seq (J.seq (J.region mixed hI (by kernel_rfl) ?_)))
  refine J.cond (b := hereD l d) rfl (fun hh => ?_) (fun hh => ?_)
  · obtain ⟨y, hy, hyd⟩ := here_at hh
    have hlt : posD l d < l.length := (List.getElem?_eq_some_iff.1 hy).1
    have hrem : remD l d = l.eraseIdx (posD l d) := by unfold remD; rw [if_pos hh]
    have hlen : (remD l d).length = l.length - 1 := by rw [hrem, List.length_eraseIdx, if_pos hlt]
    refine J.exC (key := 1000) (q := 0) rfl rfl fun p => ?_
    refine J.sepC (key := 1000) (q := 0) rfl rfl ?_
    refine J.factC (key := 1000) (q := 1) rfl rfl (fun w F h => row_room h) fun hrm => ?_
    obtain ⟨B, cap⟩ := p
    dsimp only at hrm ⊢
    obtain ⟨g, rfl⟩ : ∃ g, B = some ⟨g, 0, none⟩ := by
      cases B with
      | none => have := (hrm.2.2.2.1 rfl).1; omega
      | some ad => exact ⟨ad.block, by rw [← hrm.2.2.2.2 ad rfl]⟩
    repeat (first | refine Plan.move rfl rfl rfl rfl ?_ | (refine Plan.ints rfl rfl rfl rfl rfl rfl ?_; (refine Plan.int (i64r (by omega)) ?_)) | refine Plan.nilOk rfl rfl rfl rfl ?_ | refine Plan.fieldC rfl rfl rfl rfl (by first | exact Try.underlying86 | exact Try.underlying105) rfl (by kernel_rfl) (by exact (rfl : _ = 0)) ?_ | refine Plan.loadC (key := 1000) (q := 0) rfl rfl rfl rfl rfl rfl (obj_reads1 rfl) (by first | exact Try.underlying3 | exact Try.underlying63) (by rfl) (by decide) ?_ | refine J.region mixed hI (by kernel_rfl) ?_)
    refine Plan.int (y := ((posD l d + 1 : Nat) : Int)) (by omega) ?_
    refine Plan.callC (key := 1000) (q := 1) rfl rfl rfl (delete_fnS g cap l (posD l d) hlt hl) Try.func54 rfl rfl (by intro _ e; cases e; decide) (by repeat (first | exact Opnds.nil | refine Opnds.cons rfl (by exact Sub.refl _) ?_)) rfl hA rfl ?_
    intro _ _
    repeat (first | refine Plan.nilOk rfl rfl rfl rfl ?_ | refine Plan.fieldC rfl rfl rfl rfl (by first | exact Try.underlying86 | exact Try.underlying105) rfl (by kernel_rfl) (by exact (rfl : _ = 0)) ?_)
    refine Plan.storeC (key := 1000) (q := 0) rfl rfl rfl rfl rfl rfl (by simp [Value.cells, Value.oneCell', str]) (by kernel_rfl) rfl hA rfl (obj_pat1 (Nat.le_of_ble_eq_true rfl)) ?_
    rw [← hrem, ← hlen, hh]
    repeat (first | refine Plan.move rfl rfl rfl rfl ?_ | refine Plan.assign rfl rfl rfl rfl ?_ | refine J.seq (J.region mixed hI (by kernel_rfl) ?_))
    exact J.ret (Nrm.retC1 (key := 1000) () rfl rfl rfl trivial (Sub.refl _) (bag_closeS (B := some ⟨g, 0, none⟩) (cap := cap)))
  · have hrem : remD l d = l := by unfold remD; rw [hh]; rfl
    rw [hrem, hh]
    repeat (first | refine Plan.move rfl rfl rfl rfl ?_ | refine Plan.assign rfl rfl rfl rfl ?_ | refine J.seq (J.region mixed hI (by kernel_rfl) ?_) | refine J.skip ?_)
    exact J.ret (Nrm.retC1 (key := 1000) () rfl rfl rfl trivial (Sub.refl _) Ent.one)

theorem clone_fnS (l : List (Dt × (List UInt8))) (hl : l.length ≤ 1000000) : Spc Try.prog 58 [row 3 (l.flatMap itS)] fun B => own B 66 3 (l.flatMap itS) := by
  refine Spc.intro Try.func58 rfl (Nat.le_of_ble_eq_true rfl) fun w0 => ?_
  have hI := hIb w0
  repeat (first | refine Plan.move rfl rfl rfl rfl ?_ | refine Plan.assign rfl rfl rfl rfl ?_ | refine J.seq (J.region mixed hI (by kernel_rfl) ?_) | refine J.seq (J.seq (J.region mixed hI (by kernel_rfl) ?_)))
  refine Plan.eqlNil rfl rfl rfl rfl (Sub.old fun _ h => h) Try.underlying63 ?_
  repeat (fail)
  refine J.condNil rfl (fun he => ?_) ?_
  · rw [he]
    repeat (first | refine Plan.assign rfl rfl rfl rfl ?_ | refine J.seq (J.region mixed hI (by kernel_rfl) ?_))
    exact J.ret (Nrm.ret1 rfl (fun _ h => h) rfl fun B hB => by first | exact Sub.refl _ | exact Sub.own | exact Sub.old (fun _ h => h) | exact Sub.oldOwn (fun _ h => h) | exact Sub.nilRow | exact Sub.ownLower hB | exact Sub.nilOwn (fun _ h => Nat.le_trans hB h.size))
  · repeat (first | refine J.seq (J.region mixed hI (by kernel_rfl) ?_) | refine J.skip ?_)
    refine Plan.lit (B := w0.heap.size) (vs := []) rfl rfl rfl eltItS rfl (hBb w0) rfl (by simp [Value.cells]) (by decide) ?_
    repeat (refine Plan.move rfl rfl rfl rfl ?_)
    refine Plan.append (news := l.flatMap itS) rfl rfl rfl rfl (Sub.refl _) rfl (Sub.old fun _ h => h) eltItS (by intro d hd; cases hd; decide) (hGb w0) (fun u hu => by
      obtain ⟨x, _, hx⟩ := List.mem_flatMap.1 hu
      exact itOneS x u hx) (by simp only [flat, List.flatMap_nil, List.length_nil]; rw [flat_len itLS]; omega) ?_
    repeat (refine Plan.assign rfl rfl rfl rfl ?_)
    exact J.ret (Nrm.ret1 rfl (fun _ h => h) rfl fun B hB => by first | exact Sub.refl _ | exact Sub.own | exact Sub.old (fun _ h => h) | exact Sub.oldOwn (fun _ h => h) | exact Sub.nilRow | exact Sub.ownLower hB | exact Sub.nilOwn (fun _ h => Nat.le_trans hB h.size))
theorem items_fnS (β : Nat) (l : List (Dt × (List UInt8))) (hl : l.length ≤ 1000000) : SpcR Try.prog 34 [.ex (ptr β)] (bagCS β l) fun B => own B 66 3 (l.flatMap itS) := by
  refine SpcR.intro Try.func34 rfl (Nat.le_of_ble_eq_true rfl) fun w0 => ?_
  have hI := hIb w0
  refine J.exC (key := 1000) (q := 0) rfl rfl fun x => ?_
  refine J.sepC (key := 1000) (q := 0) rfl rfl ?_
  repeat (first | refine Plan.move rfl rfl rfl rfl ?_ | refine Plan.assign rfl rfl rfl rfl ?_ | refine J.seq (J.region mixed hI (by kernel_rfl) ?_) | refine J.seq (J.seq (J.region mixed hI (by kernel_rfl) ?_)))
  refine Plan.eqlPtr rfl rfl rfl rfl (by kernel_rfl) ?_
  repeat (first | refine Plan.move rfl rfl rfl rfl ?_ | refine J.seq (J.region mixed hI (by kernel_rfl) ?_) | refine J.condF rfl ?_ | refine J.skip ?_)
  refine Plan.nilOk rfl rfl rfl rfl ?_
  refine Plan.fieldC rfl rfl rfl rfl (by exact Try.underlying105) rfl (by kernel_rfl) (by exact (rfl : _ = 0)) ?_
  refine Plan.loadRowC (key := 1000) (q := 0) (q2 := 1) rfl rfl rfl rfl rfl rfl (obj_reads1 rfl) rfl Try.underlying63 (by rfl) (by decide) ?_
  refine Plan.call (B := w0.heap.size) rfl rfl rfl (clone_fnS l hl) Try.func58 rfl rfl (hBb w0) (by repeat (first | exact Opnds.nil | refine Opnds.cons rfl (by exact Sub.refl _) ?_)) ?_
  repeat (refine Plan.assign rfl rfl rfl rfl ?_)
  exact J.ret (Nrm.ret1 rfl (fun _ h => h) rfl fun B hB => by first | exact Sub.refl _ | exact Sub.own | exact Sub.old (fun _ h => h) | exact Sub.oldOwn (fun _ h => h) | exact Sub.nilRow | exact Sub.ownLower hB | exact Sub.nilOwn (fun _ h => Nat.le_trans hB h.size))
theorem items_nilS : Spc Try.prog 34 [.ex (.pointer none)] fun B => own B 66 3 [] := by
  refine Spc.intro Try.func34 rfl (Nat.le_of_ble_eq_true rfl) fun w0 => ?_
  have hI := hIb w0
  repeat (first | refine Plan.move rfl rfl rfl rfl ?_ | refine Plan.assign rfl rfl rfl rfl ?_ | refine Plan.eqlPtr rfl rfl rfl rfl (by kernel_rfl) ?_ | refine J.seq (J.region mixed hI (by kernel_rfl) ?_) | refine J.seq (J.seq (J.region mixed hI (by kernel_rfl) ?_)) | refine J.condT rfl ?_)
  exact J.ret (Nrm.ret1 rfl (fun _ h => h) rfl fun B hB => by first | exact Sub.refl _ | exact Sub.own | exact Sub.old (fun _ h => h) | exact Sub.oldOwn (fun _ h => h) | exact Sub.nilRow | exact Sub.ownLower hB | exact Sub.nilOwn (fun _ h => Nat.le_trans hB h.size))
def WhOkS (wh : Value) (p : (List UInt8) → Bool) : Prop := (wh = .nilFunc ∧ p = fun _ => true) ∨ ∃ f fn, wh = .func (.func f) #[] #[] ∧ Try.prog.funcs[f]? = some fn ∧ fn.body.isNone = false ∧ (fn.name == "runtime.NumGoroutine") = false ∧ ∀ x, Spc Try.prog f [.ex (str x)] fun _ => .ex (.bool (p x))
def goesS (v : Nat → Int) (p : (List UInt8) → Bool) (x : Dt × (List UInt8)) : Bool := decide (hasP v x.1.1 x.1.2) && p x.2
theorem drop1_fnS (a b : Nat) (v : Nat → Int) (wh : Value) (p : (List UInt8) → Bool) (hw : WhOkS wh p) (x : Dt × (List UInt8)) :
    SpcR Try.prog 57 [.ex (.agg (itS x).toArray), .ex (ptr a), .ex (ptr b)] (sepC (obj a (vList v)) (obj b [wh])) fun _ => .ex (.bool (goesS v p x)) := by
  refine SpcR.intro Try.func57 rfl (Nat.le_of_ble_eq_true rfl) fun w0 => ?_
  have hI := hIb w0
  refine J.sepC (key := 1000) (q := 0) rfl rfl ?_
  repeat (refine J.seq (J.region mixed hI (by kernel_rfl) ?_))
  refine Plan.boxP rfl rfl rfl rfl ?_
  repeat (first | refine Plan.assign rfl rfl rfl rfl ?_ | refine J.seq (J.region mixed hI (by kernel_rfl) ?_))
  refine Plan.loadAggC (key := 1000) (q := 0) (vs := vList v) rfl rfl rfl rfl rfl rfl obj_whole Try.underlying42 rfl (by kernel_rfl) (by decide) ?_
  refine Plan.fieldPtr (us := [vi x.1.1, vi x.1.2]) rfl rfl rfl rfl (Sub.refl _) Try.underlying66 rfl (by kernel_rfl) rfl ?_
  refine Plan.loadAggP rfl rfl rfl rfl (Sub.refl _) Try.underlying28 rfl (by kernel_rfl) ?_
  refine Plan.call (B := w0.heap.size) rfl rfl rfl (has_fn v x.1.1 x.1.2) Try.func50 rfl rfl (hBb w0) (by repeat (first | exact Opnds.nil | refine Opnds.cons rfl (by exact Sub.refl _) ?_)) ?_
  refine Plan.splitD (fun h => ?_) (fun h => ?_)
  · repeat (refine Plan.move rfl rfl rfl rfl ?_)
    refine Plan.loadC (key := 1000) (q := 1) rfl rfl rfl rfl rfl rfl (obj_reads1 rfl) Try.underlying108 rfl (by decide) ?_
    rcases hw with ⟨rfl, rfl⟩ | ⟨f, fn, rfl, hf, hb, hn, hp⟩
    · have hg : goesS v (fun _ => true) x = true := by simp [goesS, h]
      rw [hg]
      refine Plan.eqlFunc rfl rfl rfl rfl Try.underlying108 (.inl ⟨rfl, rfl⟩) ?_
      repeat (first | refine Plan.move rfl rfl rfl rfl ?_ | refine Plan.assign rfl rfl rfl rfl ?_ | refine Plan.skip rfl rfl ?_ | refine Plan.pick rfl rfl rfl rfl rfl ?_)
      exact J.ret (Nrm.ret1 rfl (fun _ h => h) rfl fun B _ => Sub.refl _)
    · have hg : goesS v p x = p x.2 := by simp [goesS, h]
      rw [hg]
      refine Plan.eqlFunc rfl rfl rfl rfl Try.underlying108 (.inr ⟨⟨_, _, _, rfl⟩, rfl⟩) ?_
      repeat (refine Plan.move rfl rfl rfl rfl ?_)
      refine Plan.loadC (key := 1000) (q := 1) rfl rfl rfl rfl rfl rfl (obj_reads1 rfl) Try.underlying108 rfl (by decide) ?_
      refine Plan.fieldPtr (us := [str x.2]) rfl rfl rfl rfl (Sub.refl _) Try.underlying66 rfl (by kernel_rfl) rfl ?_
      refine Plan.load rfl rfl rfl rfl (Sub.refl _) Try.underlying9 rfl ?_
      refine Plan.callFn rfl rfl rfl rfl (vals1 rfl) hf hb hn (Spc.fnCalls (hp x.2) (fun w _ => by simp [Fa.dens, Fa.den])) ?_
      repeat (first | refine Plan.assign rfl rfl rfl rfl ?_ | refine Plan.pick rfl rfl rfl rfl rfl ?_)
      exact J.ret (Nrm.ret1 rfl (fun _ h => h) rfl fun B _ => Sub.refl _)
  · have hg : goesS v p x = false := by simp [goesS, h]
    rw [hg]
    repeat (first | refine Plan.move rfl rfl rfl rfl ?_ | refine Plan.assign rfl rfl rfl rfl ?_ | refine Plan.skip rfl rfl ?_ | refine Plan.pick rfl rfl rfl rfl rfl ?_)
    exact J.ret (Nrm.ret1 rfl (fun _ h => h) rfl fun B _ => Sub.refl _)

abbrev fnVS (a b : Nat) : Value := .func (.func 57) #[] #[ptr a, ptr b]
def ixES (l : List (Dt × (List UInt8))) (a b : Nat) (v : Nat → Int) (wh : Value) (B : Option Addr) (cap : Nat) (i : Nat) : Env :=
  [(0, row 3 (l.flatMap itS)), (1, .ex (fnVS a b)), (7, .ex (vi l.length)), (8, .ex (vi i)), (1000, heap (fun _ => True) [rowIS B l.length cap (l.flatMap itS), obj a (vList v), obj b [wh]])]
theorem indexF_fnS (B : Option Addr) (cap a b : Nat) (l : List (Dt × (List UInt8))) (hl : l.length ≤ 1000000) (v : Nat → Int) (wh : Value) (p : (List UInt8) → Bool) (hw : WhOkS wh p) :
    SpcR Try.prog 81 [.ex (.slice B l.length cap), .ex (fnVS a b)] (allC [rowIS B l.length cap (l.flatMap itS), obj a (vList v), obj b [wh]]) fun _ => .ex (vi (idxD (goesS v p) l)) := by
  refine SpcR.intro Try.func81 rfl (Nat.le_of_ble_eq_true rfl) fun w0 => ?_
  have hI := hIb w0
  refine J.open1 (key := 1000) rfl ?_
  repeat (first | refine Plan.move rfl rfl rfl rfl ?_ | refine Plan.assign rfl rfl rfl rfl ?_ | refine J.seq (J.region mixed hI (by kernel_rfl) ?_) | refine J.seq (J.seq (J.region mixed hI (by kernel_rfl) ?_)))
  refine Plan.lenE rfl rfl rfl rfl Try.underlying63 ?_
  repeat (refine Plan.move rfl rfl rfl rfl ?_)
  refine J.seeC (t := 0) (key := 1000) (q := 0) rfl rfl rfl (fun w F h => row_rowH h) ?_
  refine J.block (J.loop (ixES l a b v wh B cap) (fun i => i ≤ l.length ∧ ∀ k x, l[k]? = some x → k < i → goesS v p x = false) (fun i => l.length - i) 0 ⟨Nat.zero_le _, fun k x _ h => by omega⟩ ?_ ?_)
  · repeat (first | exact Weak.nil | refine Weak.cons rfl (Sub.refl _) ?_)
  rintro i ⟨hil, hno⟩
  repeat (first | (refine Plan.ints rfl rfl rfl rfl rfl rfl ?_; (skip)) | refine J.seq (J.region mixed hI (by kernel_rfl) ?_))
  refine J.seq (J.condD rfl (fun hc => ?_) (fun hc => ?_))
  · have hlt : i < l.length := by omega
    have hx : l[i]? = some l[i] := List.getElem?_eq_getElem hlt
    have hgd : l.getD i it0S = l[i] := by rw [List.getD_eq_getElem?_getD, hx]; rfl
    repeat (refine J.skip ?_)
    refine J.seq (J.block ?_)
    repeat (first | refine Plan.move rfl rfl rfl rfl ?_ | refine Plan.assign rfl rfl rfl rfl ?_ | refine J.seq (J.region mixed hI (by kernel_rfl) ?_))
    refine Plan.indexAddr itS 3 l it0S rfl rfl rfl rfl (Sub.refl _) rfl eltItS itLS (by omega) (by omega) ?_
    rw [Int.toNat_natCast, hgd]
    refine Plan.loadAggP rfl rfl rfl rfl (Sub.refl _) Try.underlying66 rfl (by rw [itLS]; kernel_rfl) ?_
    refine Plan.callFR (key := 1000) (B := 0) (fs := [.ex (.agg (itS l[i]).toArray)]) (caps := [ptr a, ptr b]) rfl rfl rfl rfl (drop1_fnS a b v wh p hw l[i]) Try.func57 rfl rfl (fun _ _ => Nat.zero_le _) (Opnds.cons rfl (Sub.refl _) Opnds.nil) rfl (Ent.right.trans (Ent.sep (Ent.refl _) Ent.one)) (by decide) ?_
    repeat (fail)
    refine J.cond rfl (fun hg => ?_) (fun hg => ?_)
    · rw [idx_found hno hx hg]
      repeat (first | refine Plan.move rfl rfl rfl rfl ?_ | refine Plan.assign rfl rfl rfl rfl ?_ | refine J.seq (J.region mixed hI (by kernel_rfl) ?_))
      exact J.ret (Nrm.ret1 rfl (fun _ h => h) rfl fun B _ => Sub.refl _)
    · repeat (first | refine Plan.move rfl rfl rfl rfl ?_ | (refine Plan.ints rfl rfl rfl rfl rfl rfl ?_; (refine Plan.int (i64r (by omega)) ?_)) | refine J.region mixed hI (by kernel_rfl) ?_ | refine J.skip ?_)
      refine Plan.int (y := ((i + 1 : Nat) : Int)) (by omega) ?_
      repeat (fail)
      refine Nrm.next (i + 1) ⟨by omega, fun k x hk hki => ?_⟩ (by omega) (by repeat (first | exact Weak.nil | refine Weak.cons rfl (Sub.refl _) ?_))
      rcases Nat.lt_or_ge k i with h1 | h1
      · exact hno k x hk h1
      · have : k = i := by omega
        subst this; rw [hx] at hk; cases hk; exact hg
  refine J.exit ?_
  rw [idx_none fun k x hk => hno k x hk (by have := (List.getElem?_eq_some_iff.1 hk).1; omega)]
  repeat (first | refine Plan.assign rfl rfl rfl rfl ?_ | refine J.seq (J.region mixed hI (by kernel_rfl) ?_))
  exact J.ret (Nrm.ret1 rfl (fun _ h => h) rfl fun B _ => Sub.refl _)
def keepS (v : Nat → Int) (p : (List UInt8) → Bool) (l : List (Dt × (List UInt8))) : List (Dt × (List UInt8)) := l.filter fun x => !goesS v p x
def dlFS (w0 : World) (F : Nat → Prop) (l : List (Dt × (List UInt8))) (g cap a b : Nat) (v : Nat → Int) (wh : Value) (p : (List UInt8) → Bool) (rest : List Value) (j i : Nat) (junk : List Value) : Env :=
  [(0, .ex (.slice (some ⟨g, 0, none⟩) l.length cap)), (1, .ex (fnVS a b)), (5, .ex (vi i)), (6, .ex (vi j)),
   (1000, heap (fun b => F b ∨ w0.heap.size ≤ b) [blk g 66 ((keepS v p (l.take j)).flatMap itS ++ (junk ++ ((l.drop j).flatMap itS ++ rest))), obj a (vList v), obj b [wh]])]
def dlES (w0 : World) (F : Nat → Prop) (l : List (Dt × (List UInt8))) (g cap a b : Nat) (v : Nat → Int) (wh : Value) (p : (List UInt8) → Bool) (rest : List Value) (s : Nat × Nat × List Value) : Env := dlFS w0 F l g cap a b v wh p rest s.1 s.2.1 s.2.2
theorem delF_fnS (B : Option Addr) (cap a b : Nat) (l : List (Dt × (List UInt8))) (hl : l.length ≤ 1000000) (v : Nat → Int) (wh : Value) (p : (List UInt8) → Bool) (hw : WhOkS wh p) :
    SpcC Try.prog 56 [.ex (.slice B l.length cap), .ex (fnVS a b)] (allC [rowIS B l.length cap (l.flatMap itS), obj a (vList v), obj b [wh]])
      (fun _ : Unit => True) (fun _ => .ex (.slice B (keepS v p l).length cap)) (fun _ => allC [rowIS B (keepS v p l).length cap ((keepS v p l).flatMap itS)]) := by
  refine SpcC.intro Try.func56 rfl (Nat.le_of_ble_eq_true rfl) fun w0 F => ?_
  have hI := kept_below F w0
  have hA := Own.kept F w0
  refine J.open1 (key := 1000) rfl ?_
  refine J.factC (key := 1000) (q := 0) rfl rfl (fun w F h => row_room h) fun hrm => ?_
  repeat (first | refine Plan.move rfl rfl rfl rfl ?_ | refine Plan.assign rfl rfl rfl rfl ?_ | refine J.seq (J.region mixed hI (by kernel_rfl) ?_))
  refine Plan.callRG (key := 1000) (B := 0) rfl rfl rfl (indexF_fnS B cap a b l hl v wh p hw) Try.func81 rfl rfl (fun _ _ => Nat.zero_le _) (by repeat (first | exact Opnds.nil | refine Opnds.cons rfl (by exact Sub.refl _) ?_)) rfl (Ent.refl _) (by decide) ?_
  repeat (first | refine Plan.move rfl rfl rfl rfl ?_ | refine Plan.assign rfl rfl rfl rfl ?_ | (refine Plan.ints rfl rfl rfl rfl rfl rfl ?_; (skip)) | refine J.seq (J.seq (J.region mixed hI (by kernel_rfl) ?_)))
  refine J.condE rfl (fun hc => ?_) (fun hc => ?_)
  · have hk : keepS v p l = l := by
      unfold keepS
      exact List.filter_eq_self.2 fun x hx => by rw [idx_no hc x hx]; rfl
    rw [hk]
    repeat (first | refine Plan.move rfl rfl rfl rfl ?_ | refine Plan.assign rfl rfl rfl rfl ?_ | refine J.seq (J.region mixed hI (by kernel_rfl) ?_))
    exact J.ret (Nrm.retC1 (key := 1000) () rfl rfl rfl trivial (Sub.refl _) (Ent.sep (Ent.refl _) Ent.emp))
  obtain ⟨k, hkl, hki, hkg, hkn⟩ := idx_some hc
  rw [hki]
  obtain ⟨g, rfl⟩ : ∃ g, B = some ⟨g, 0, none⟩ := by
    cases B with
    | none => have := (hrm.2.2.2.1 rfl).1; omega
    | some ad => exact ⟨ad.block, by rw [← hrm.2.2.2.2 ad rfl]⟩
  refine J.convC (key := 1000) (q := 0) rfl rfl row_blk ?_
  refine J.exC (key := 1000) (q := 0) rfl rfl fun rest => ?_
  refine J.purC (key := 1000) (q := 0) rfl rfl fun hrest => ?_
  obtain ⟨hr1, hr2, hr3, hr4⟩ := hrest
  have hkt : keepS v p (l.take (k + 1)) = l.take k := by
    unfold keepS
    rw [List.take_succ_eq_append_getElem hkl, List.filter_append, List.filter_cons_of_neg (by rw [hkg]; decide), List.filter_nil, List.append_nil]
    refine List.filter_eq_self.2 fun x hx => ?_
    obtain ⟨j, hj, rfl⟩ := List.getElem_of_mem hx
    rw [List.length_take] at hj
    rw [List.getElem_take, hkn j _ (List.getElem?_eq_getElem (by omega)) (by omega)]; rfl
  repeat (first | refine Plan.move rfl rfl rfl rfl ?_ | refine Plan.assign rfl rfl rfl rfl ?_ | (refine Plan.ints rfl rfl rfl rfl rfl rfl ?_; (refine Plan.int (i64r (by omega)) ?_)) | refine J.seq (J.seq (J.region mixed hI (by kernel_rfl) ?_)) | refine J.skip ?_)
  refine Plan.int (y := ((k + 1 : Nat) : Int)) (by omega) ?_
  repeat (fail)
  refine J.block (J.loop (dlES w0 F l g cap a b v wh p rest) (fun s => s.1 ≤ l.length ∧ s.2.1 < s.1 ∧ s.2.1 = (keepS v p (l.take s.1)).length ∧ s.2.2.length = (s.1 - s.2.1) * 3) (fun s => l.length - s.1) (k + 1, k, itS l[k]) ⟨hkl, Nat.lt_succ_self k, by rw [hkt, List.length_take]; simp only; omega, by show _ = (k + 1 - k) * _; rw [show k + 1 - k = 1 by omega, Nat.one_mul]; rfl⟩ ?_ ?_)
  · have hcs : l.flatMap itS ++ rest = (keepS v p (l.take (k + 1))).flatMap itS ++ (itS l[k] ++ ((l.drop (k + 1)).flatMap itS ++ rest)) := by
      rw [hkt, ← List.append_assoc, ← List.append_assoc]
      congr 1
      have : l.flatMap itS = (l.take k ++ l[k] :: l.drop (k + 1)).flatMap itS := by rw [List.getElem_cons_drop, List.take_append_drop]
      rw [this, List.flatMap_append, List.flatMap_cons, ← List.append_assoc]
    rw [hcs]
    repeat (first | exact Weak.nil | refine Weak.cons rfl (Sub.refl _) ?_)
  rintro ⟨j, i, junk⟩ ⟨hj, hij, hi, hjl⟩
  simp only at hj hij hi hjl
  change J _ _ _ _ _ (dlFS w0 F l g cap a b v wh p rest j i junk)
  have hKl := flat_len itLS (keepS v p (l.take j))
  rw [← hi] at hKl
  have hDl := flat_len itLS (l.drop j)
  rw [List.length_drop] at hDl
  repeat (first | refine Plan.move rfl rfl rfl rfl ?_ | refine J.seq (J.seq (J.region mixed hI (by kernel_rfl) ?_)))
  refine Plan.lenE rfl rfl rfl rfl Try.underlying63 ?_
  repeat ((refine Plan.ints rfl rfl rfl rfl rfl rfl ?_; (skip)))
  refine J.condD rfl (fun hc => ?_) (fun hc => ?_)
  · have hlt : j < l.length := by omega
    have hd : l.drop j = l[j] :: l.drop (j + 1) := (List.getElem_cons_drop (h := hlt)).symm
    repeat (refine J.skip ?_)
    refine J.seq (J.block ?_)
    repeat (first | refine Plan.move rfl rfl rfl rfl ?_ | refine J.seq (J.region mixed hI (by kernel_rfl) ?_))
    refine Plan.indexC (off := j * 3) rfl rfl rfl rfl rfl eltItS hlt (by omega) ?_
    refine Plan.loadAggC (key := 1000) (q := 0) (vs := itS l[j]) rfl rfl rfl rfl rfl rfl (blk_reads ?_) Try.underlying66 rfl (by rw [itLS]; kernel_rfl) (by decide) ?_
    · rw [← List.append_assoc, List.drop_left' (by rw [List.length_append, hKl, hjl, ← Nat.add_mul]; congr 1; omega), hd, List.flatMap_cons, List.append_assoc, List.take_left]
    refine Plan.allocC (key := 1000) (z := .agg (itS it0S).toArray) rfl rfl rfl (by intro _ e; cases e; decide) (by kernel_rfl) rfl hA fun γ => ?_
    refine Plan.storeC (key := 1000) (q := 3) (off := 0) rfl rfl rfl rfl rfl rfl (fun u hu => itOneS l[j] u hu) (by kernel_rfl) rfl hA rfl (obj_pat (show 0 + (itS l[j]).length ≤ (itS it0S).length by rw [itLS, itLS]; omega)) ?_
    have hobj : (itS it0S).take 0 ++ itS l[j] ++ (itS it0S).drop (0 + (itS l[j]).length) = itS l[j] := by
      rw [List.take_zero, List.nil_append, List.drop_of_length_le (by rw [itLS, itLS]; omega), List.append_nil]
    obtain ⟨K, hK⟩ : ∃ K, K = (keepS v p (l.take j)).flatMap itS := ⟨_, rfl⟩
    obtain ⟨T, hT⟩ : ∃ T, T = (l.drop (j + 1)).flatMap itS ++ rest := ⟨_, rfl⟩
    have hcs : (keepS v p (l.take j)).flatMap itS ++ (junk ++ ((l.drop j).flatMap itS ++ rest)) = K ++ (junk ++ (itS l[j] ++ T)) := by rw [hd, List.flatMap_cons, List.append_assoc, ← hK, ← hT]
    rw [← hK] at hKl
    have hks : keepS v p (l.take (j + 1)) = keepS v p (l.take j) ++ if goesS v p l[j] then [] else [l[j]] := by
      unfold keepS
      rw [List.take_succ_eq_append_getElem hlt, List.filter_append]
      congr 1
      cases hgg : goesS v p l[j] <;> simp [List.filter_cons, hgg]
    refine J.regroup (key := 1000) [blk g 66 (K ++ (junk ++ (itS l[j] ++ T))), obj a (vList v), obj b [wh], obj γ (itS l[j])] rfl (Ent.sep (Ent.blkEq hcs) (Ent.sep (Ent.refl _) (Ent.sep (Ent.refl _) (Ent.sep (Ent.of_eq (congrArg (obj γ) hobj)) (Ent.refl _))))) ?_
    repeat (first | refine Plan.move rfl rfl rfl rfl ?_ | refine J.seq (J.region mixed hI (by kernel_rfl) ?_))
    refine Plan.loadAggC (key := 1000) (q := 3) (vs := itS l[j]) rfl rfl rfl rfl rfl rfl obj_whole Try.underlying66 rfl (by rw [itLS]; kernel_rfl) (by decide) ?_
    refine Plan.callFR (key := 1000) (B := 0) (fs := [.ex (.agg (itS l[j]).toArray)]) (caps := [ptr a, ptr b]) rfl rfl rfl rfl (drop1_fnS a b v wh p hw l[j]) Try.func57 rfl rfl (fun _ _ => Nat.zero_le _) (Opnds.cons rfl (Sub.refl _) Opnds.nil) rfl (Ent.right.trans (Ent.sep (Ent.refl _) Ent.left)) (by decide) ?_
    repeat (refine Plan.un rfl rfl rfl rfl rfl ?_)
    refine J.cond rfl (fun hg => ?_) (fun hg => ?_)
    · have hg' : goesS v p l[j] = false := by simpa using hg
      rw [hg', if_neg (by decide)] at hks
      have hlen : (keepS v p (l.take (j + 1))).length = i + 1 := by rw [hks, List.length_append, ← hi]; rfl
      have hKl2 : K.length = i * 3 := hKl
      have hjs : 3 ≤ junk.length := by rw [hjl]; omega
      have hcs2 : (K ++ (junk ++ (itS l[j] ++ T))).take (i * 3) ++ itS l[j] ++ (K ++ (junk ++ (itS l[j] ++ T))).drop (i * 3 + (itS l[j]).length) = (keepS v p (l.take (j + 1))).flatMap itS ++ ((junk.drop 3 ++ itS l[j]) ++ T) := by
        rw [List.take_left' hKl2, ← List.drop_drop, List.drop_left' hKl2, itLS, List.drop_append_of_le_length hjs, hks, List.flatMap_append, ← hK]
        simp only [List.flatMap_cons, List.flatMap_nil, List.append_nil, List.append_assoc]
      repeat (first | refine Plan.move rfl rfl rfl rfl ?_ | refine J.seq (J.region mixed hI (by kernel_rfl) ?_))
      refine Plan.loadAggC (key := 1000) (q := 3) (vs := itS l[j]) rfl rfl rfl rfl rfl rfl obj_whole Try.underlying66 rfl (by rw [itLS]; kernel_rfl) (by decide) ?_
      refine Plan.indexC (off := i * 3) rfl rfl rfl rfl rfl eltItS (by omega) (by omega) ?_
      refine Plan.storeC (key := 1000) (q := 0) (off := i * 3) rfl rfl rfl rfl rfl rfl (fun u hu => itOneS l[j] u hu) (by kernel_rfl) rfl hA rfl (blk_pat (show i * 3 + (itS l[j]).length ≤ _ by rw [List.length_append, List.length_append, List.length_append, itLS, hKl2]; omega)) ?_
      repeat (first | refine Plan.move rfl rfl rfl rfl ?_ | refine Plan.assign rfl rfl rfl rfl ?_ | (refine Plan.ints rfl rfl rfl rfl rfl rfl ?_; (refine Plan.int (i64r (by omega)) ?_)) | refine J.region mixed hI (by kernel_rfl) ?_)
      refine Plan.int (y := ((j + 1 : Nat) : Int)) (by omega) ?_
      repeat (fail)
      refine Nrm.next (j + 1, i + 1, junk.drop 3 ++ itS l[j]) ⟨by simp only; omega, by simp only; omega, hlen.symm, by simp only; rw [List.length_append, List.length_drop, itLS, hjl]; omega⟩ (by simp only; omega) ?_
      refine Weak.cons rfl (Sub.refl _) (Weak.cons rfl (Sub.refl _) (Weak.cons rfl (Sub.refl _) (Weak.cons rfl (Sub.refl _) (Weak.cons rfl (Sub.heap (Ent.sep (Ent.blkEq ?_) (Ent.sep (Ent.refl _) (Ent.sep (Ent.refl _) Ent.emp)))) Weak.nil))))
      rw [← hT]; exact hcs2
    · have hg' : goesS v p l[j] = true := by simpa using hg
      rw [hg', if_pos rfl, List.append_nil] at hks
      repeat (first | refine Plan.move rfl rfl rfl rfl ?_ | refine Plan.assign rfl rfl rfl rfl ?_ | (refine Plan.ints rfl rfl rfl rfl rfl rfl ?_; (refine Plan.int (i64r (by omega)) ?_)) | refine J.region mixed hI (by kernel_rfl) ?_ | refine J.skip ?_)
      refine Plan.int (y := ((j + 1 : Nat) : Int)) (by omega) ?_
      repeat (fail)
      refine Nrm.next (j + 1, i, junk ++ itS l[j]) ⟨by simp only; omega, by simp only; omega, by simp only; rw [hks]; exact hi, by simp only; rw [List.length_append, itLS, hjl]; omega⟩ (by simp only; omega) ?_
      refine Weak.cons rfl (Sub.refl _) (Weak.cons rfl (Sub.refl _) (Weak.cons rfl (Sub.refl _) (Weak.cons rfl (Sub.refl _) (Weak.cons rfl (Sub.heap (Ent.sep (Ent.blkEq ?_) (Ent.sep (Ent.refl _) (Ent.sep (Ent.refl _) Ent.emp)))) Weak.nil))))
      simp only
      rw [hks, ← hK, ← hT, List.append_assoc]
  have hje : j = l.length := by omega
  subst hje
  rw [List.take_length] at hKl hi
  rw [List.drop_length] at hDl
  have hcs : (keepS v p (l.take l.length)).flatMap itS ++ (junk ++ ((l.drop l.length).flatMap itS ++ rest)) = (keepS v p l).flatMap itS ++ (junk ++ rest) := by rw [List.take_length, List.drop_length]; rfl
  have hrl : rest.length = (cap - l.length) * 3 := by rw [List.length_append, hr2] at hr1; omega
  rw [← hi]
  refine J.exit ?_
  refine J.regroup (key := 1000) [blk g 66 ((keepS v p l).flatMap itS ++ (junk ++ rest)), obj a (vList v), obj b [wh]] rfl (Ent.sep (Ent.blkEq hcs) (Ent.refl _)) ?_
  repeat (first | refine Plan.move rfl rfl rfl rfl ?_ | refine J.seq (J.region mixed hI (by kernel_rfl) ?_))
  refine Plan.sliceLo (a0 := i) rfl rfl rfl rfl eltItS rfl (by omega) (by omega) (by omega) ?_
  refine Plan.clearC (key := 1000) (q := 0) rfl rfl rfl rfl rfl eltItS rfl hA rfl (fun u hu => itOneS it0S u hu) (by rw [List.length_append, List.length_append, hKl, hjl]; omega) fun zs hzs => ?_
  have hfin : ((keepS v p l).flatMap itS ++ (junk ++ rest)).take (0 + i * 3) ++ zs ++ ((keepS v p l).flatMap itS ++ (junk ++ rest)).drop (0 + i * 3 + (l.length - i) * 3) = (keepS v p l).flatMap itS ++ (zs ++ rest) := by
    rw [Nat.zero_add, List.take_left' hKl, ← List.drop_drop, List.drop_left' hKl, List.drop_left' hjl, List.append_assoc]
  rw [hfin]
  repeat (first | refine Plan.move rfl rfl rfl rfl ?_ | refine J.seq (J.region mixed hI (by kernel_rfl) ?_))
  refine Plan.sliceHi (b0 := i) rfl rfl rfl rfl eltItS rfl (by omega) ?_
  repeat (refine Plan.assign rfl rfl rfl rfl ?_)
  refine J.ret (Nrm.retC1 (key := 1000) () rfl rfl rfl trivial (Sub.refl _) (Ent.sep ?_ Ent.emp))
  exact blk_row (by rw [List.length_append, List.length_append, hKl, hzs, hrl]; show _ = cap * 3; omega) hKl (show i ≤ cap by omega) (show cap ≤ _ by omega)

theorem drop_fnS (β : Nat) (l : List (Dt × (List UInt8))) (hl : l.length ≤ 1000000) (v : Nat → Int) (wh : Value) (p : (List UInt8) → Bool) (hw : WhOkS wh p) :
    SpcC Try.prog 33 [.ex (ptr β), .ex (aggV v), .ex wh] (bagCS β l) (fun _ : Unit => True) (fun _ => .ex (vi ((l.length - (keepS v p l).length : Nat) : Int))) (fun _ => bagCS β (keepS v p l)) := by
  have hkl : (keepS v p l).length ≤ l.length := List.length_filter_le _ _
  have hcell : wh.cells.toList = [wh] := by rcases hw with ⟨rfl, _⟩ | ⟨f, fn, rfl, _⟩ <;> rfl
  refine SpcC.intro Try.func33 rfl (Nat.le_of_ble_eq_true rfl) fun w0 F => ?_
  have hI := kept_below F w0
  have hA := Own.kept F w0
  repeat (refine J.seq (J.region mixed hI (by kernel_rfl) ?_))
  refine Plan.boxC (key := 1000) rfl rfl rfl (by intro _ e; cases e; decide) rfl rfl hA fun a => ?_
  refine Plan.boxC (key := 1000) rfl rfl rfl (by intro _ e; cases e; decide) rfl rfl hA fun b => ?_
  rw [hcell]
  repeat (first | refine Plan.move rfl rfl rfl rfl ?_ | refine Plan.assign rfl rfl rfl rfl ?_ | refine J.seq (J.region mixed hI (by kernel_rfl) ?_))
  refine Plan.callR (key := 1000) (B := 0) (q := 0) rfl rfl rfl (len_fnS β l) Try.func55 rfl rfl (fun _ _ => Nat.zero_le _) (by repeat (first | exact Opnds.nil | refine Opnds.cons rfl (by exact Sub.refl _) ?_)) rfl rfl (by decide) ?_
  repeat (first | refine Plan.move rfl rfl rfl rfl ?_ | refine Plan.assign rfl rfl rfl rfl ?_ | (refine Plan.ints rfl rfl rfl rfl rfl rfl ?_; (skip)) | refine J.seq (J.seq (J.region mixed hI (by kernel_rfl) ?_)))
  refine J.condD rfl (fun hc => ?_) (fun hc => ?_)
  · refine J.exC (key := 1000) (q := 0) rfl rfl fun x => ?_
    refine J.sepC (key := 1000) (q := 0) rfl rfl ?_
    repeat (first | refine Plan.move rfl rfl rfl rfl ?_ | refine Plan.nilOk rfl rfl rfl rfl ?_ | refine Plan.fieldC rfl rfl rfl rfl (by first | exact Try.underlying86 | exact Try.underlying105) rfl (by kernel_rfl) (by exact (rfl : _ = 0)) ?_ | refine Plan.loadC (key := 1000) (q := 0) rfl rfl rfl rfl rfl rfl (obj_reads1 rfl) (by first | exact Try.underlying3 | exact Try.underlying63) (by rfl) (by decide) ?_ | refine J.region mixed hI (by kernel_rfl) ?_)
    refine Plan.makeFn (cs := [.tmp 4, .tmp 5]) rfl rfl rfl (vals2 rfl rfl) ?_
    refine Plan.callL (key := 1000) [3, 1, 2] [0] rfl rfl rfl (delF_fnS x.1 x.2 a b l hl v wh p hw) Try.func56 rfl rfl (by intro _ e; cases e; decide) (by repeat (first | exact Opnds.nil | refine Opnds.cons rfl (by exact Sub.refl _) ?_)) rfl hA rfl rfl rfl fun _ _ => ?_
    repeat (first | refine Plan.nilOk rfl rfl rfl rfl ?_ | refine Plan.fieldC rfl rfl rfl rfl (by first | exact Try.underlying86 | exact Try.underlying105) rfl (by kernel_rfl) (by exact (rfl : _ = 0)) ?_)
    refine Plan.storeC (key := 1000) (q := 1) rfl rfl rfl rfl rfl rfl (by simp [Value.cells, Value.oneCell', str]) (by kernel_rfl) rfl hA rfl (obj_pat1 (Nat.le_of_ble_eq_true rfl)) ?_
    refine J.regroup (key := 1000) [bagCS β (keepS v p l)] rfl ((Ent.pickC [1, 0] rfl rfl).trans ((bag_closeS (B := x.1) (cap := x.2)).trans Ent.addEmp)) ?_
    repeat (first | refine Plan.move rfl rfl rfl rfl ?_ | refine J.seq (J.region mixed hI (by kernel_rfl) ?_))
    refine Plan.callR (key := 1000) (B := 0) (q := 0) rfl rfl rfl (len_fnS β (keepS v p l)) Try.func55 rfl rfl (fun _ _ => Nat.zero_le _) (by repeat (first | exact Opnds.nil | refine Opnds.cons rfl (by exact Sub.refl _) ?_)) rfl rfl (by decide) ?_
    repeat (first | refine Plan.assign rfl rfl rfl rfl ?_ | (refine Plan.ints rfl rfl rfl rfl rfl rfl ?_; (refine Plan.int (i64r (by omega)) ?_)))
    refine Plan.int (y := ((l.length - (keepS v p l).length : Nat) : Int)) (by omega) ?_
    repeat (fail)
    exact J.ret (Nrm.retC1 (key := 1000) () rfl rfl rfl trivial (Sub.refl _) Ent.one)
  · have hnil : l = [] := List.eq_nil_of_length_eq_zero (by omega)
    subst hnil
    repeat (first | refine Plan.move rfl rfl rfl rfl ?_ | refine J.seq (J.region mixed hI (by kernel_rfl) ?_) | refine J.skip ?_)
    refine Plan.callR (key := 1000) (B := 0) (q := 0) rfl rfl rfl (len_fnS β []) Try.func55 rfl rfl (fun _ _ => Nat.zero_le _) (by repeat (first | exact Opnds.nil | refine Opnds.cons rfl (by exact Sub.refl _) ?_)) rfl rfl (by decide) ?_
    repeat (first | refine Plan.assign rfl rfl rfl rfl ?_ | (refine Plan.ints rfl rfl rfl rfl rfl rfl ?_; (refine Plan.int (i64r (by omega)) ?_)))
    exact J.ret (Nrm.retC1 (key := 1000) () rfl rfl rfl trivial (Sub.refl _) Ent.left)
end Go.Proofs.Ytkhcjedlopiicaa
