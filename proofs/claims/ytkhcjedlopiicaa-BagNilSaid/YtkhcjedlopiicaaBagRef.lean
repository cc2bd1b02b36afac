/-
  The model's bags: Remove, Get, Drop.
-/
import Derived.Test.YtkhcjedlopiicaaBagCmp
import Derived.Test.YtkhcjedlopiicaaBagPlain4
set_option linter.unusedSimpArgs false
set_option linter.unusedVariables false
set_option maxRecDepth 20000
namespace Go.Proofs.Ytkhcjedlopiicaa
open Go.Free Go.RowKit Go.Proofs
set_option maxHeartbeats 8000000

abbrev rowR (B : Option Addr) (n cap : Nat) (xs : List Value) : Chunk := rowC 30 3 B n cap xs
def refC (β : Nat) (l : List (Dt × Int)) : Chunk := exC fun p : Option Addr × Nat => sepC (obj β [.slice p.1 l.length p.2]) (rowR p.1 l.length p.2 (l.flatMap itI))
theorem ref_close {β cap : Nat} {l : List (Dt × Int)} {B : Option Addr} : Ent (allC [obj β [.slice B l.length cap], rowR B l.length cap (l.flatMap itI)]) (refC β l) :=
  Ent.ex (B, cap) (Ent.sep (Ent.refl _) Ent.one)
theorem itOneR (l : List (Dt × Int)) : ∀ u ∈ l.flatMap itI, u.oneCell' = true := fun u hu => by
  obtain ⟨x, _, hx⟩ := List.mem_flatMap.1 hu
  exact itOneI x u hx
def offD (d : Dt) (l : List (Dt × Int)) : List (Dt × Int) := l.filter fun y => !decide (y.1 = d)
theorem off_rem {l : List (Dt × Int)} (h : sortedD l) (d : Dt) : offD d l = remD l d := by
  refine sorted_ext (h.filter _) (sorted_rem h d) fun e y => ?_
  rw [mem_rem h]
  unfold offD
  rw [List.mem_filter]
  simp only [Bool.not_eq_true', decide_eq_false_iff_not]
  exact ⟨fun ⟨h1, h2⟩ => ⟨h2, h1⟩, fun ⟨h1, h2⟩ => ⟨h2, h1⟩⟩
theorem off_some {l : List (Dt × Int)} (h : sortedD l) (d : Dt) : decide (((offD d l).length : Int) < l.length) = hereD l d := by
  rw [off_rem h, len_rem]
  cases hh : hereD l d with
  | false => rw [if_neg (by decide)]; simp
  | true =>
    obtain ⟨x, hx, _⟩ := here_at hh
    have := (List.getElem?_eq_some_iff.1 hx).1
    rw [if_pos rfl]
    exact decide_eq_true (by omega)
theorem off_succ (d : Dt) (l : List (Dt × Int)) {i : Nat} (h : i < l.length) : offD d (l.take (i + 1)) = if l[i].1 = d then offD d (l.take i) else offD d (l.take i) ++ [l[i]] := by
  unfold offD
  rw [List.take_succ_eq_append_getElem h, List.filter_append]
  by_cases hd : l[i].1 = d <;> simp [List.filter_cons, hd]
def rmE (w0 : World) (F : Nat → Prop) (β γ : Nat) (B : Option Addr) (cap : Nat) (l : List (Dt × Int)) (d : Dt) (i : Nat) (O : Option Addr) (oc : Nat) (out : List (Dt × Int)) : Env :=
  [(0, .ex (ptr β)), (3, .ex (ptr γ)), (5, .ex (.slice O out.length oc)), (12, .ex (vi l.length)), (13, .ex (vi i)),
   (1000, heap (fun b => F b ∨ w0.heap.size ≤ b) [obj β [.slice B l.length cap], rowR B l.length cap (l.flatMap itI), obj γ [vi d.1, vi d.2], rowR O out.length oc (out.flatMap itI)])]
theorem refRemove_fn (β : Nat) (l : List (Dt × Int)) (hs : sortedD l) (hl : l.length ≤ 1000000) (hok : ∀ x ∈ l, okI x) (d : Dt) (hd : okD d) :
    SpcC Try.prog 25 [.ex (ptr β), .ex (aggD d.1 d.2)] (refC β l) (fun _ : Unit => True) (fun _ => .ex (.bool (hereD l d))) (fun _ => refC β (remD l d)) := by
  refine SpcC.intro Try.func25 rfl (Nat.le_of_ble_eq_true rfl) fun w0 F => ?_
  have hI := kept_below F w0
  have hA := Own.kept F w0
  rw [← off_some hs, ← off_rem hs]
  refine J.exC (key := 1000) (q := 0) rfl rfl fun x => ?_
  refine J.sepC (key := 1000) (q := 0) rfl rfl ?_
  obtain ⟨B, cap⟩ := x
  dsimp only
  repeat (refine J.seq (J.region mixed hI (by kernel_rfl) ?_))
  refine Plan.boxC (key := 1000) rfl rfl rfl (by intro _ e; cases e; decide) rfl rfl hA fun γ => ?_
  repeat (first | refine Plan.move rfl rfl rfl rfl ?_ | refine Plan.assign rfl rfl rfl rfl ?_ | refine Plan.nilOk rfl rfl rfl rfl ?_ | refine Plan.fieldC rfl rfl rfl rfl (by first | exact Try.underlying86 | exact Try.underlying48) rfl (by kernel_rfl) (by exact (rfl : _ = 0)) ?_ | refine Plan.loadC (key := 1000) (q := 0) rfl rfl rfl rfl rfl rfl (obj_reads1 rfl) (by first | exact Try.underlying3 | exact Try.underlying22) (by rfl) (by decide) ?_ | refine J.seq (J.region mixed hI (by kernel_rfl) ?_) | refine J.seq (J.seq (J.region mixed hI (by kernel_rfl) ?_)))
  refine Plan.lenE rfl rfl rfl rfl Try.underlying22 ?_
  repeat (refine Plan.move rfl rfl rfl rfl ?_)
  refine J.nilRow (key := 1000) 30 3 rfl ?_
  refine J.block (J.loop (fun s : Nat × Option Addr × Nat => rmE w0 F β γ B cap l d s.1 s.2.1 s.2.2 (offD d (l.take s.1))) (fun s => s.1 ≤ l.length) (fun s => l.length - s.1) (0, none, 0) (Nat.zero_le _) ?_ ?_)
  · repeat (first | exact Weak.nil | refine Weak.cons rfl (Sub.refl _) ?_)
  rintro ⟨i, O, oc⟩ hi
  simp only at hi
  change J _ _ _ _ _ (rmE w0 F β γ B cap l d i O oc (offD d (l.take i)))
  have hol : (offD d (l.take i)).length ≤ i := by
    have := List.length_filter_le (fun y : Dt × Int => !decide (y.1 = d)) (l.take i)
    rw [List.length_take] at this; unfold offD; omega
  repeat (first | (refine Plan.ints rfl rfl rfl rfl rfl rfl ?_; (skip)) | refine J.seq (J.region mixed hI (by kernel_rfl) ?_))
  refine J.seq (J.condD rfl (fun hc => ?_) (fun hc => ?_))
  · have hlt : i < l.length := by omega
    have hoi := hok _ (List.getElem_mem hlt)
    refine J.factC (key := 1000) (q := 1) rfl rfl (fun w F h => row_room h) fun hrm => ?_
    obtain ⟨g, rfl⟩ : ∃ g, B = some ⟨g, 0, none⟩ := by
      cases B with
      | none => have := (hrm.2.2.2.1 rfl).1; omega
      | some ad => exact ⟨ad.block, by rw [← hrm.2.2.2.2 ad rfl]⟩
    have hat : (l.flatMap itI).drop (i * 3) = itI l[i] ++ (l.drop (i + 1)).flatMap itI := by have := flat_at itLI l hlt []; rwa [List.append_nil, List.append_nil] at this
    have hrd : ((l.flatMap itI).drop (i * 3)).take 2 = [vi l[i].1.1, vi l[i].1.2] := by rw [hat]; rfl
    have hra : ((l.flatMap itI).drop (i * 3)).take 3 = itI l[i] := by rw [hat]; rfl
    have hos := off_succ d l hlt
    repeat (refine J.skip ?_)
    refine J.seq (J.block ?_)
    repeat (first | refine Plan.move rfl rfl rfl rfl ?_ | refine Plan.assign rfl rfl rfl rfl ?_ | refine Plan.nilOk rfl rfl rfl rfl ?_ | refine Plan.fieldC rfl rfl rfl rfl (by first | exact Try.underlying86 | exact Try.underlying48) rfl (by kernel_rfl) (by exact (rfl : _ = 0)) ?_ | refine Plan.loadC (key := 1000) (q := 0) rfl rfl rfl rfl rfl rfl (obj_reads1 rfl) (by first | exact Try.underlying3 | exact Try.underlying22) (by rfl) (by decide) ?_ | refine J.seq (J.region mixed hI (by kernel_rfl) ?_))
    refine Plan.indexC (off := i * 3) rfl rfl rfl rfl rfl eltRef hlt (by omega) ?_
    refine Plan.fieldC (off := i * 3) rfl rfl rfl rfl (by exact Try.underlying33) rfl (by kernel_rfl) rfl ?_
    refine Plan.loadAggC (key := 1000) (q := 1) (off := i * 3) (vs := [vi l[i].1.1, vi l[i].1.2]) rfl rfl rfl rfl rfl rfl (row_reads hrd) Try.underlying28 rfl (by kernel_rfl) (by decide) ?_
    refine Plan.loadAggC (key := 1000) (q := 2) (vs := [vi d.1, vi d.2]) rfl rfl rfl rfl rfl rfl (obj_reads rfl) Try.underlying28 rfl (by kernel_rfl) (by decide) ?_
    refine Plan.neqDt l[i].1 d rfl rfl rfl rfl rfl hoi.1 hd ?_
    by_cases he : l[i].1 = d
    · rw [if_pos he] at hos
      refine Plan.boolv (y := false) (by simp [he]) ?_
      repeat (first | refine Plan.move rfl rfl rfl rfl ?_ | (refine Plan.ints rfl rfl rfl rfl rfl rfl ?_; (refine Plan.int (i64r (by omega)) ?_)) | refine J.region mixed hI (by kernel_rfl) ?_ | refine J.condF rfl ?_ | refine J.skip ?_)
      refine Plan.int (y := ((i + 1 : Nat) : Int)) (by omega) ?_
      repeat (fail)
      refine Nrm.next (i + 1, O, oc) (by simp only; omega) (by simp only; omega) ?_
      simp only
      rw [hos]
      repeat (first | exact Weak.nil | refine Weak.cons rfl (Sub.refl _) ?_)
    · rw [if_neg he] at hos
      refine Plan.boolv (y := true) (by simp [he]) ?_
      repeat (first | refine Plan.move rfl rfl rfl rfl ?_ | refine Plan.nilOk rfl rfl rfl rfl ?_ | refine Plan.fieldC rfl rfl rfl rfl (by first | exact Try.underlying86 | exact Try.underlying48) rfl (by kernel_rfl) (by exact (rfl : _ = 0)) ?_ | refine Plan.loadC (key := 1000) (q := 0) rfl rfl rfl rfl rfl rfl (obj_reads1 rfl) (by first | exact Try.underlying3 | exact Try.underlying22) (by rfl) (by decide) ?_ | refine J.region mixed hI (by kernel_rfl) ?_ | refine J.condT rfl ?_)
      refine Plan.indexC (off := i * 3) rfl rfl rfl rfl rfl eltRef hlt (by omega) ?_
      refine Plan.loadAggC (key := 1000) (q := 1) (off := i * 3) (vs := itI l[i]) rfl rfl rfl rfl rfl rfl (row_reads hra) Try.underlying30 rfl (by kernel_rfl) (by decide) ?_
      refine Plan.lit (B := 0) rfl rfl rfl eltRef rfl (fun _ _ => Nat.zero_le _) rfl (fun v hv => by rw [List.mem_singleton.1 hv]; rfl) (by decide) ?_
      refine Plan.appendC (key := 1000) (q := 3) (news := itI l[i]) rfl rfl rfl rfl rfl Sub.own eltRef (by intro _ e; cases e; decide) rfl hA rfl (itOneI l[i]) (by rw [flat_len itLI, itLI]; omega) fun O' m' oc' hm' => ?_
      have hm2 : m' = (offD d (l.take (i + 1))).length := by rw [hos, List.length_append]; rw [flat_len itLI, itLI] at hm'; show m' = _ + 1; omega
      subst hm2
      have hrow : (offD d (l.take i)).flatMap itI ++ itI l[i] = (offD d (l.take (i + 1))).flatMap itI := by rw [hos, List.flatMap_append, List.flatMap_cons, List.flatMap_nil, List.append_nil]
      rw [hrow]
      repeat (first | refine Plan.move rfl rfl rfl rfl ?_ | refine Plan.assign rfl rfl rfl rfl ?_ | (refine Plan.ints rfl rfl rfl rfl rfl rfl ?_; (refine Plan.int (i64r (by omega)) ?_)) | refine J.region mixed hI (by kernel_rfl) ?_)
      refine Plan.int (y := ((i + 1 : Nat) : Int)) (by omega) ?_
      repeat (fail)
      exact Nrm.next (i + 1, O', oc') (by simp only; omega) (by simp only; omega) (by repeat (first | exact Weak.nil | refine Weak.cons rfl (Sub.refl _) ?_))
  have hie : i = l.length := by omega
  subst hie
  refine J.exit ?_
  rw [List.take_length]
  repeat (first | refine Plan.move rfl rfl rfl rfl ?_ | refine J.seq (J.region mixed hI (by kernel_rfl) ?_))
  refine Plan.lenE rfl rfl rfl rfl Try.underlying22 ?_
  repeat (first | refine Plan.move rfl rfl rfl rfl ?_ | refine Plan.nilOk rfl rfl rfl rfl ?_ | refine Plan.fieldC rfl rfl rfl rfl (by first | exact Try.underlying86 | exact Try.underlying48) rfl (by kernel_rfl) (by exact (rfl : _ = 0)) ?_ | refine Plan.loadC (key := 1000) (q := 0) rfl rfl rfl rfl rfl rfl (obj_reads1 rfl) (by first | exact Try.underlying3 | exact Try.underlying22) (by rfl) (by decide) ?_)
  refine Plan.lenE rfl rfl rfl rfl Try.underlying22 ?_
  repeat (first | refine Plan.move rfl rfl rfl rfl ?_ | refine Plan.assign rfl rfl rfl rfl ?_ | (refine Plan.ints rfl rfl rfl rfl rfl rfl ?_; (skip)) | refine Plan.nilOk rfl rfl rfl rfl ?_ | refine Plan.fieldC rfl rfl rfl rfl (by first | exact Try.underlying86 | exact Try.underlying48) rfl (by kernel_rfl) (by exact (rfl : _ = 0)) ?_ | refine J.seq (J.region mixed hI (by kernel_rfl) ?_))
  refine Plan.storeC (key := 1000) (q := 0) rfl rfl rfl rfl rfl rfl (by simp [Value.cells, Value.oneCell', str]) (by kernel_rfl) rfl hA rfl (obj_pat1 (Nat.le_of_ble_eq_true rfl)) ?_
  repeat (first | refine Plan.move rfl rfl rfl rfl ?_ | refine Plan.assign rfl rfl rfl rfl ?_ | refine J.seq (J.region mixed hI (by kernel_rfl) ?_))
  exact J.ret (Nrm.retC1 (key := 1000) () rfl rfl rfl trivial (Sub.refl _) ((Ent.pickC [0, 3] rfl rfl).trans (ref_close (B := O) (cap := oc))))
def rgE (β : Nat) (B : Option Addr) (cap : Nat) (l : List (Dt × Int)) (d : Dt) (i : Nat) : Env :=
  [(0, .ex (ptr β)), (3, ptrF [vi d.1, vi d.2]), (11, .ex (vi l.length)), (12, .ex (vi i)), (1000, heap (fun _ => True) [obj β [.slice B l.length cap], rowR B l.length cap (l.flatMap itI)])]
theorem refGet_fn (β : Nat) (l : List (Dt × Int)) (hs : sortedD l) (hl : l.length ≤ 1000000) (hok : ∀ x ∈ l, okI x) (d : Dt) (hd : okD d) :
    SpcR Try.prog 24 [.ex (ptr β), .ex (aggD d.1 d.2)] (refC β l) fun _ => .tup [.ex (vi (valD l d 0)), .ex (.bool (hereD l d))] := by
  refine SpcR.intro Try.func24 rfl (Nat.le_of_ble_eq_true rfl) fun w0 => ?_
  have hI := hIb w0
  refine J.exC (key := 1000) (q := 0) rfl rfl fun x => ?_
  refine J.sepC (key := 1000) (q := 0) rfl rfl ?_
  obtain ⟨B, cap⟩ := x
  dsimp only
  repeat (refine J.seq (J.region mixed hI (by kernel_rfl) ?_))
  refine Plan.boxP rfl rfl rfl rfl ?_
  repeat (first | refine Plan.move rfl rfl rfl rfl ?_ | refine Plan.assign rfl rfl rfl rfl ?_ | refine Plan.nilOk rfl rfl rfl rfl ?_ | refine Plan.fieldC rfl rfl rfl rfl (by first | exact Try.underlying86 | exact Try.underlying48) rfl (by kernel_rfl) (by exact (rfl : _ = 0)) ?_ | refine Plan.loadC (key := 1000) (q := 0) rfl rfl rfl rfl rfl rfl (obj_reads1 rfl) (by first | exact Try.underlying3 | exact Try.underlying22) (by rfl) (by decide) ?_ | refine J.seq (J.seq (J.region mixed hI (by kernel_rfl) ?_)))
  refine Plan.lenE rfl rfl rfl rfl Try.underlying22 ?_
  repeat (refine Plan.move rfl rfl rfl rfl ?_)
  refine J.block (J.loop (rgE β B cap l d) (fun i => i ≤ l.length ∧ ∀ (j : Nat) y, l[j]? = some y → j < i → y.1 ≠ d) (fun i => l.length - i) 0 ⟨Nat.zero_le _, fun j y _ h => by omega⟩ ?_ ?_)
  · repeat (first | exact Weak.nil | refine Weak.cons rfl (Sub.refl _) ?_)
  rintro i ⟨hi, hno⟩
  repeat (first | (refine Plan.ints rfl rfl rfl rfl rfl rfl ?_; (skip)) | refine J.seq (J.region mixed hI (by kernel_rfl) ?_))
  refine J.seq (J.condD rfl (fun hc => ?_) (fun hc => ?_))
  · have hlt : i < l.length := by omega
    have hxi : l[i]? = some l[i] := List.getElem?_eq_getElem hlt
    have hoi := hok _ (List.getElem_mem hlt)
    refine J.factC (key := 1000) (q := 1) rfl rfl (fun w F h => row_room h) fun hrm => ?_
    obtain ⟨g, rfl⟩ : ∃ g, B = some ⟨g, 0, none⟩ := by
      cases B with
      | none => have := (hrm.2.2.2.1 rfl).1; omega
      | some ad => exact ⟨ad.block, by rw [← hrm.2.2.2.2 ad rfl]⟩
    have hat : (l.flatMap itI).drop (i * 3) = itI l[i] ++ (l.drop (i + 1)).flatMap itI := by have := flat_at itLI l hlt []; rwa [List.append_nil, List.append_nil] at this
    have hrd : ((l.flatMap itI).drop (i * 3)).take 2 = [vi l[i].1.1, vi l[i].1.2] := by rw [hat]; rfl
    have hrx : (l.flatMap itI)[i * 3 + 2]? = some (vi l[i].2) := by
      have h1 : (l.flatMap itI)[i * 3 + 2]? = ((l.flatMap itI).drop (i * 3))[2]? := by rw [List.getElem?_drop]
      rw [h1, hat]; rfl
    repeat (refine J.skip ?_)
    refine J.seq (J.block ?_)
    repeat (first | refine Plan.move rfl rfl rfl rfl ?_ | refine Plan.assign rfl rfl rfl rfl ?_ | refine Plan.nilOk rfl rfl rfl rfl ?_ | refine Plan.fieldC rfl rfl rfl rfl (by first | exact Try.underlying86 | exact Try.underlying48) rfl (by kernel_rfl) (by exact (rfl : _ = 0)) ?_ | refine Plan.loadC (key := 1000) (q := 0) rfl rfl rfl rfl rfl rfl (obj_reads1 rfl) (by first | exact Try.underlying3 | exact Try.underlying22) (by rfl) (by decide) ?_ | refine J.seq (J.region mixed hI (by kernel_rfl) ?_))
    refine Plan.indexC (off := i * 3) rfl rfl rfl rfl rfl eltRef hlt (by omega) ?_
    refine Plan.fieldC (off := i * 3) rfl rfl rfl rfl (by exact Try.underlying33) rfl (by kernel_rfl) rfl ?_
    refine Plan.loadAggC (key := 1000) (q := 1) (off := i * 3) (vs := [vi l[i].1.1, vi l[i].1.2]) rfl rfl rfl rfl rfl rfl (row_reads hrd) Try.underlying28 rfl (by kernel_rfl) (by decide) ?_
    refine Plan.loadAggP rfl rfl rfl rfl (Sub.refl _) Try.underlying28 rfl (by kernel_rfl) ?_
    refine Plan.eqlDt l[i].1 d rfl rfl rfl rfl rfl hoi.1 hd ?_
    refine J.condD rfl (fun he => ?_) (fun he => ?_)
    · have hm : (d, l[i].2) ∈ l := by rw [← he]; exact List.getElem_mem hlt
      rw [val_mem hs hm, (here_mem hs).2 ⟨_, hm⟩]
      repeat (first | refine Plan.move rfl rfl rfl rfl ?_ | refine Plan.nilOk rfl rfl rfl rfl ?_ | refine Plan.fieldC rfl rfl rfl rfl (by first | exact Try.underlying86 | exact Try.underlying48) rfl (by kernel_rfl) (by exact (rfl : _ = 0)) ?_ | refine Plan.loadC (key := 1000) (q := 0) rfl rfl rfl rfl rfl rfl (obj_reads1 rfl) (by first | exact Try.underlying3 | exact Try.underlying22) (by rfl) (by decide) ?_ | refine J.seq (J.region mixed hI (by kernel_rfl) ?_))
      refine Plan.indexC (off := i * 3) rfl rfl rfl rfl rfl eltRef hlt (by omega) ?_
      refine Plan.fieldC (off := i * 3 + 2) rfl rfl rfl rfl (by exact Try.underlying33) rfl (by kernel_rfl) rfl ?_
      refine Plan.loadC (key := 1000) (q := 1) (off := i * 3 + 2) rfl rfl rfl rfl rfl rfl (row_reads1 hrx) Try.underlying3 rfl (by decide) ?_
      repeat (refine Plan.assign rfl rfl rfl rfl ?_)
      exact J.ret (Nrm.ret2 rfl (fun _ h => h) fun B hB => ⟨_, rfl, Ress.cons rfl (by exact Sub.refl _) (Ress.cons rfl (by exact Sub.refl _) Ress.nil)⟩)
    · repeat (first | refine Plan.move rfl rfl rfl rfl ?_ | (refine Plan.ints rfl rfl rfl rfl rfl rfl ?_; (refine Plan.int (i64r (by omega)) ?_)) | refine J.region mixed hI (by kernel_rfl) ?_ | refine J.skip ?_)
      refine Plan.int (y := ((i + 1 : Nat) : Int)) (by omega) ?_
      repeat (fail)
      refine Nrm.next (i + 1) ⟨by omega, fun j y hy hj => ?_⟩ (by omega) (by repeat (first | exact Weak.nil | refine Weak.cons rfl (Sub.refl _) ?_))
      rcases Nat.lt_or_ge j i with h5 | h5
      · exact hno j y hy h5
      · have : j = i := by omega
        subst this; rw [hxi] at hy; cases hy; exact he
  have hn : hereD l d = false := (here_not hs).2 fun x hx => by
    obtain ⟨j, hj, e⟩ := List.getElem_of_mem hx
    have := hno j _ (List.getElem?_eq_getElem hj) (by omega)
    rw [e] at this; exact this rfl
  refine J.exit ?_
  rw [val_not hn, hn]
  repeat (first | refine Plan.assign rfl rfl rfl rfl ?_ | refine J.seq (J.region mixed hI (by kernel_rfl) ?_))
  exact J.ret (Nrm.ret2 rfl (fun _ h => h) fun B hB => ⟨_, rfl, Ress.cons rfl (by exact Sub.refl _) (Ress.cons rfl (by exact Sub.refl _) Ress.nil)⟩)
def opP (o : Bool) : Int → Bool := if o then oddB else fun _ => true
theorem keep_succ (v : Nat → Int) (p : Int → Bool) (l : List (Dt × Int)) {i : Nat} (h : i < l.length) : keepI v p (l.take (i + 1)) = if goesI v p l[i] then keepI v p (l.take i) else keepI v p (l.take i) ++ [l[i]] := by
  unfold keepI
  rw [List.take_succ_eq_append_getElem h, List.filter_append]
  cases hg : goesI v p l[i] <;> simp [List.filter_cons, hg]
def rdE (w0 : World) (F : Nat → Prop) (β γ : Nat) (B : Option Addr) (cap : Nat) (l : List (Dt × Int)) (v : Nat → Int) (o : Bool) (i : Nat) (O : Option Addr) (oc : Nat) (out : List (Dt × Int)) : Env :=
  [(0, .ex (ptr β)), (2, .ex (.bool o)), (4, .ex (ptr γ)), (7, .ex (.slice O out.length oc)), (14, .ex (vi l.length)), (15, .ex (vi i)),
   (1000, heap (fun b => F b ∨ w0.heap.size ≤ b) [obj β [.slice B l.length cap], rowR B l.length cap (l.flatMap itI), obj γ (vList v), rowR O out.length oc (out.flatMap itI)])]
theorem refDrop_fn (β : Nat) (l : List (Dt × Int)) (hl : l.length ≤ 1000000) (v : Nat → Int) (o : Bool) :
    SpcC Try.prog 27 [.ex (ptr β), .ex (aggV v), .ex (.bool o)] (refC β l) (fun _ : Unit => True) (fun _ => .ex (vi ((l.length - (keepI v (opP o) l).length : Nat) : Int))) (fun _ => refC β (keepI v (opP o) l)) := by
  refine SpcC.intro Try.func27 rfl (Nat.le_of_ble_eq_true rfl) fun w0 F => ?_
  have hI := kept_below F w0
  have hA := Own.kept F w0
  refine J.exC (key := 1000) (q := 0) rfl rfl fun x => ?_
  refine J.sepC (key := 1000) (q := 0) rfl rfl ?_
  obtain ⟨B, cap⟩ := x
  dsimp only
  repeat (refine J.seq (J.region mixed hI (by kernel_rfl) ?_))
  refine Plan.boxC (key := 1000) rfl rfl rfl (by intro _ e; cases e; decide) rfl rfl hA fun γ => ?_
  repeat (first | refine Plan.move rfl rfl rfl rfl ?_ | refine Plan.assign rfl rfl rfl rfl ?_ | refine Plan.nilOk rfl rfl rfl rfl ?_ | refine Plan.fieldC rfl rfl rfl rfl (by first | exact Try.underlying86 | exact Try.underlying48) rfl (by kernel_rfl) (by exact (rfl : _ = 0)) ?_ | refine Plan.loadC (key := 1000) (q := 0) rfl rfl rfl rfl rfl rfl (obj_reads1 rfl) (by first | exact Try.underlying3 | exact Try.underlying22) (by rfl) (by decide) ?_ | refine J.seq (J.region mixed hI (by kernel_rfl) ?_) | refine J.seq (J.seq (J.region mixed hI (by kernel_rfl) ?_)))
  refine Plan.lenE rfl rfl rfl rfl Try.underlying22 ?_
  repeat (refine Plan.move rfl rfl rfl rfl ?_)
  refine J.nilRow (key := 1000) 30 3 rfl ?_
  refine J.block (J.loop (fun s : Nat × Option Addr × Nat => rdE w0 F β γ B cap l v o s.1 s.2.1 s.2.2 (keepI v (opP o) (l.take s.1))) (fun s => s.1 ≤ l.length) (fun s => l.length - s.1) (0, none, 0) (Nat.zero_le _) ?_ ?_)
  · repeat (first | exact Weak.nil | refine Weak.cons rfl (Sub.refl _) ?_)
  rintro ⟨i, O, oc⟩ hi
  simp only at hi
  change J _ _ _ _ _ (rdE w0 F β γ B cap l v o i O oc (keepI v (opP o) (l.take i)))
  have hol : (keepI v (opP o) (l.take i)).length ≤ i := by
    have := List.length_filter_le (fun x : Dt × Int => !goesI v (opP o) x) (l.take i)
    rw [List.length_take] at this; unfold keepI; omega
  repeat (first | (refine Plan.ints rfl rfl rfl rfl rfl rfl ?_; (skip)) | refine J.seq (J.region mixed hI (by kernel_rfl) ?_))
  refine J.seq (J.condD rfl (fun hc => ?_) (fun hc => ?_))
  · have hlt : i < l.length := by omega
    refine J.factC (key := 1000) (q := 1) rfl rfl (fun w F h => row_room h) fun hrm => ?_
    obtain ⟨g, rfl⟩ : ∃ g, B = some ⟨g, 0, none⟩ := by
      cases B with
      | none => have := (hrm.2.2.2.1 rfl).1; omega
      | some ad => exact ⟨ad.block, by rw [← hrm.2.2.2.2 ad rfl]⟩
    have hat : (l.flatMap itI).drop (i * 3) = itI l[i] ++ (l.drop (i + 1)).flatMap itI := by have := flat_at itLI l hlt []; rwa [List.append_nil, List.append_nil] at this
    have hrd : ((l.flatMap itI).drop (i * 3)).take 2 = [vi l[i].1.1, vi l[i].1.2] := by rw [hat]; rfl
    have hra : ((l.flatMap itI).drop (i * 3)).take 3 = itI l[i] := by rw [hat]; rfl
    have hrx : (l.flatMap itI)[i * 3 + 2]? = some (vi l[i].2) := by
      have h1 : (l.flatMap itI)[i * 3 + 2]? = ((l.flatMap itI).drop (i * 3))[2]? := by rw [List.getElem?_drop]
      rw [h1, hat]; rfl
    have hos := keep_succ v (opP o) l hlt
    repeat (refine J.skip ?_)
    refine J.seq (J.block ?_)
    repeat (first | refine Plan.move rfl rfl rfl rfl ?_ | refine Plan.assign rfl rfl rfl rfl ?_ | refine J.seq (J.region mixed hI (by kernel_rfl) ?_))
    refine Plan.loadAggC (key := 1000) (q := 2) (vs := vList v) rfl rfl rfl rfl rfl rfl obj_whole Try.underlying42 rfl (by kernel_rfl) (by decide) ?_
    repeat (first | refine Plan.move rfl rfl rfl rfl ?_ | refine Plan.nilOk rfl rfl rfl rfl ?_ | refine Plan.fieldC rfl rfl rfl rfl (by first | exact Try.underlying86 | exact Try.underlying48) rfl (by kernel_rfl) (by exact (rfl : _ = 0)) ?_ | refine Plan.loadC (key := 1000) (q := 0) rfl rfl rfl rfl rfl rfl (obj_reads1 rfl) (by first | exact Try.underlying3 | exact Try.underlying22) (by rfl) (by decide) ?_)
    refine Plan.indexC (off := i * 3) rfl rfl rfl rfl rfl eltRef hlt (by omega) ?_
    refine Plan.fieldC (off := i * 3) rfl rfl rfl rfl (by exact Try.underlying33) rfl (by kernel_rfl) rfl ?_
    refine Plan.loadAggC (key := 1000) (q := 1) (off := i * 3) (vs := [vi l[i].1.1, vi l[i].1.2]) rfl rfl rfl rfl rfl rfl (row_reads hrd) Try.underlying28 rfl (by kernel_rfl) (by decide) ?_
    refine Plan.call (B := 0) rfl rfl rfl (refHas_fn v l[i].1.1 l[i].1.2) Try.func51 rfl rfl (fun _ _ => Nat.zero_le _) (by repeat (first | exact Opnds.nil | refine Opnds.cons rfl (by exact Sub.refl _) ?_)) ?_
    refine Plan.splitD (fun hh => ?_) (fun hh => ?_)
    · cases o with
      | false =>
        have hg : goesI v (opP false) l[i] = true := by simp [goesI, opP, hh]
        rw [hg, if_pos rfl] at hos
        repeat (first | refine Plan.move rfl rfl rfl rfl ?_ | refine Plan.skip rfl rfl ?_ | refine Plan.pick rfl rfl rfl rfl rfl ?_ | (refine Plan.ints rfl rfl rfl rfl rfl rfl ?_; (refine Plan.int (i64r (by omega)) ?_)) | refine Plan.un rfl rfl rfl rfl rfl ?_ | refine J.region mixed hI (by kernel_rfl) ?_ | refine J.condF rfl ?_ | refine J.skip ?_)
        refine Plan.int (y := ((i + 1 : Nat) : Int)) (by omega) ?_
        repeat (fail)
        refine Nrm.next (i + 1, O, oc) (by simp only; omega) (by simp only; omega) ?_
        simp only
        rw [hos]
        repeat (first | exact Weak.nil | refine Weak.cons rfl (Sub.refl _) ?_)
      | true =>
        repeat (first | refine Plan.move rfl rfl rfl rfl ?_ | refine Plan.un rfl rfl rfl rfl rfl ?_ | refine Plan.nilOk rfl rfl rfl rfl ?_ | refine Plan.fieldC rfl rfl rfl rfl (by first | exact Try.underlying86 | exact Try.underlying48) rfl (by kernel_rfl) (by exact (rfl : _ = 0)) ?_ | refine Plan.loadC (key := 1000) (q := 0) rfl rfl rfl rfl rfl rfl (obj_reads1 rfl) (by first | exact Try.underlying3 | exact Try.underlying22) (by rfl) (by decide) ?_)
        refine Plan.indexC (off := i * 3) rfl rfl rfl rfl rfl eltRef hlt (by omega) ?_
        refine Plan.fieldC (off := i * 3 + 2) rfl rfl rfl rfl (by exact Try.underlying33) rfl (by kernel_rfl) rfl ?_
        refine Plan.loadC (key := 1000) (q := 1) (off := i * 3 + 2) rfl rfl rfl rfl rfl rfl (row_reads1 hrx) Try.underlying3 rfl (by decide) ?_
        repeat (first | refine Plan.pick rfl rfl rfl rfl rfl ?_ | (refine Plan.ints rfl rfl rfl rfl rfl rfl ?_; (skip)))
        refine Plan.boolv (y := !oddB l[i].2) (by simp only [oddB, bne, Bool.not_not]) ?_
        cases hod : oddB l[i].2 with
        | true =>
          have hg : goesI v (opP true) l[i] = true := by simp [goesI, opP, hh, hod]
          rw [hg, if_pos rfl] at hos
          repeat (first | refine Plan.move rfl rfl rfl rfl ?_ | (refine Plan.ints rfl rfl rfl rfl rfl rfl ?_; (refine Plan.int (i64r (by omega)) ?_)) | refine J.region mixed hI (by kernel_rfl) ?_ | refine J.condF rfl ?_ | refine J.skip ?_)
          refine Plan.int (y := ((i + 1 : Nat) : Int)) (by omega) ?_
          repeat (fail)
          refine Nrm.next (i + 1, O, oc) (by simp only; omega) (by simp only; omega) ?_
          simp only
          rw [hos]
          repeat (first | exact Weak.nil | refine Weak.cons rfl (Sub.refl _) ?_)
        | false =>
          have hg : goesI v (opP true) l[i] = false := by simp [goesI, opP, hh, hod]
          rw [hg, if_neg (by decide)] at hos
          repeat (first | refine Plan.move rfl rfl rfl rfl ?_ | refine Plan.nilOk rfl rfl rfl rfl ?_ | refine Plan.fieldC rfl rfl rfl rfl (by first | exact Try.underlying86 | exact Try.underlying48) rfl (by kernel_rfl) (by exact (rfl : _ = 0)) ?_ | refine Plan.loadC (key := 1000) (q := 0) rfl rfl rfl rfl rfl rfl (obj_reads1 rfl) (by first | exact Try.underlying3 | exact Try.underlying22) (by rfl) (by decide) ?_ | refine J.region mixed hI (by kernel_rfl) ?_ | refine J.condT rfl ?_)
          refine Plan.indexC (off := i * 3) rfl rfl rfl rfl rfl eltRef hlt (by omega) ?_
          refine Plan.loadAggC (key := 1000) (q := 1) (off := i * 3) (vs := itI l[i]) rfl rfl rfl rfl rfl rfl (row_reads hra) Try.underlying30 rfl (by kernel_rfl) (by decide) ?_
          refine Plan.lit (B := 0) rfl rfl rfl eltRef rfl (fun _ _ => Nat.zero_le _) rfl (fun v hv => by rw [List.mem_singleton.1 hv]; rfl) (by decide) ?_
          refine Plan.appendC (key := 1000) (q := 3) (news := itI l[i]) rfl rfl rfl rfl rfl Sub.own eltRef (by intro _ e; cases e; decide) rfl hA rfl (itOneI l[i]) (by rw [flat_len itLI, itLI]; omega) fun O' m' oc' hm' => ?_
          have hm2 : m' = (keepI v (opP true) (l.take (i + 1))).length := by rw [hos, List.length_append]; rw [flat_len itLI, itLI] at hm'; show m' = _ + 1; omega
          subst hm2
          have hrow : (keepI v (opP true) (l.take i)).flatMap itI ++ itI l[i] = (keepI v (opP true) (l.take (i + 1))).flatMap itI := by rw [hos, List.flatMap_append, List.flatMap_cons, List.flatMap_nil, List.append_nil]
          rw [hrow]
          repeat (first | refine Plan.move rfl rfl rfl rfl ?_ | refine Plan.assign rfl rfl rfl rfl ?_ | (refine Plan.ints rfl rfl rfl rfl rfl rfl ?_; (refine Plan.int (i64r (by omega)) ?_)) | refine J.region mixed hI (by kernel_rfl) ?_)
          refine Plan.int (y := ((i + 1 : Nat) : Int)) (by omega) ?_
          repeat (fail)
          exact Nrm.next (i + 1, O', oc') (by simp only; omega) (by simp only; omega) (by repeat (first | exact Weak.nil | refine Weak.cons rfl (Sub.refl _) ?_))
    · have hg : goesI v (opP o) l[i] = false := by simp [goesI, hh]
      rw [hg, if_neg (by decide)] at hos
      repeat (first | refine Plan.move rfl rfl rfl rfl ?_ | refine Plan.skip rfl rfl ?_ | refine Plan.pick rfl rfl rfl rfl rfl ?_ | refine Plan.un rfl rfl rfl rfl rfl ?_ | refine Plan.nilOk rfl rfl rfl rfl ?_ | refine Plan.fieldC rfl rfl rfl rfl (by first | exact Try.underlying86 | exact Try.underlying48) rfl (by kernel_rfl) (by exact (rfl : _ = 0)) ?_ | refine Plan.loadC (key := 1000) (q := 0) rfl rfl rfl rfl rfl rfl (obj_reads1 rfl) (by first | exact Try.underlying3 | exact Try.underlying22) (by rfl) (by decide) ?_ | refine J.region mixed hI (by kernel_rfl) ?_ | refine J.condT rfl ?_)
      refine Plan.indexC (off := i * 3) rfl rfl rfl rfl rfl eltRef hlt (by omega) ?_
      refine Plan.loadAggC (key := 1000) (q := 1) (off := i * 3) (vs := itI l[i]) rfl rfl rfl rfl rfl rfl (row_reads hra) Try.underlying30 rfl (by kernel_rfl) (by decide) ?_
      refine Plan.lit (B := 0) rfl rfl rfl eltRef rfl (fun _ _ => Nat.zero_le _) rfl (fun v hv => by rw [List.mem_singleton.1 hv]; rfl) (by decide) ?_
      refine Plan.appendC (key := 1000) (q := 3) (news := itI l[i]) rfl rfl rfl rfl rfl Sub.own eltRef (by intro _ e; cases e; decide) rfl hA rfl (itOneI l[i]) (by rw [flat_len itLI, itLI]; omega) fun O' m' oc' hm' => ?_
      have hm2 : m' = (keepI v (opP o) (l.take (i + 1))).length := by rw [hos, List.length_append]; rw [flat_len itLI, itLI] at hm'; show m' = _ + 1; omega
      subst hm2
      have hrow : (keepI v (opP o) (l.take i)).flatMap itI ++ itI l[i] = (keepI v (opP o) (l.take (i + 1))).flatMap itI := by rw [hos, List.flatMap_append, List.flatMap_cons, List.flatMap_nil, List.append_nil]
      rw [hrow]
      repeat (first | refine Plan.move rfl rfl rfl rfl ?_ | refine Plan.assign rfl rfl rfl rfl ?_ | (refine Plan.ints rfl rfl rfl rfl rfl rfl ?_; (refine Plan.int (i64r (by omega)) ?_)) | refine J.region mixed hI (by kernel_rfl) ?_)
      refine Plan.int (y := ((i + 1 : Nat) : Int)) (by omega) ?_
      repeat (fail)
      exact Nrm.next (i + 1, O', oc') (by simp only; omega) (by simp only; omega) (by repeat (first | exact Weak.nil | refine Weak.cons rfl (Sub.refl _) ?_))
  have hie : i = l.length := by omega
  subst hie
  refine J.exit ?_
  rw [List.take_length] at hol ⊢
  repeat (first | refine Plan.move rfl rfl rfl rfl ?_ | refine Plan.nilOk rfl rfl rfl rfl ?_ | refine Plan.fieldC rfl rfl rfl rfl (by first | exact Try.underlying86 | exact Try.underlying48) rfl (by kernel_rfl) (by exact (rfl : _ = 0)) ?_ | refine Plan.loadC (key := 1000) (q := 0) rfl rfl rfl rfl rfl rfl (obj_reads1 rfl) (by first | exact Try.underlying3 | exact Try.underlying22) (by rfl) (by decide) ?_ | refine J.seq (J.region mixed hI (by kernel_rfl) ?_))
  refine Plan.lenE rfl rfl rfl rfl Try.underlying22 ?_
  repeat (refine Plan.move rfl rfl rfl rfl ?_)
  refine Plan.lenE rfl rfl rfl rfl Try.underlying22 ?_
  repeat (first | refine Plan.assign rfl rfl rfl rfl ?_ | (refine Plan.ints rfl rfl rfl rfl rfl rfl ?_; (refine Plan.int (i64r (by omega)) ?_)))
  refine Plan.int (y := ((l.length - (keepI v (opP o) l).length : Nat) : Int)) (by omega) ?_
  repeat (first | refine Plan.move rfl rfl rfl rfl ?_ | refine Plan.nilOk rfl rfl rfl rfl ?_ | refine Plan.fieldC rfl rfl rfl rfl (by first | exact Try.underlying86 | exact Try.underlying48) rfl (by kernel_rfl) (by exact (rfl : _ = 0)) ?_ | refine J.seq (J.region mixed hI (by kernel_rfl) ?_))
  refine Plan.storeC (key := 1000) (q := 0) rfl rfl rfl rfl rfl rfl (by simp [Value.cells, Value.oneCell', str]) (by kernel_rfl) rfl hA rfl (obj_pat1 (Nat.le_of_ble_eq_true rfl)) ?_
  repeat (first | refine Plan.move rfl rfl rfl rfl ?_ | refine Plan.assign rfl rfl rfl rfl ?_ | refine J.seq (J.region mixed hI (by kernel_rfl) ?_))
  exact J.ret (Nrm.retC1 (key := 1000) () rfl rfl rfl trivial (Sub.refl _) ((Ent.pickC [0, 3] rfl rfl).trans (ref_close (B := O) (cap := oc))))
end Go.Proofs.Ytkhcjedlopiicaa
