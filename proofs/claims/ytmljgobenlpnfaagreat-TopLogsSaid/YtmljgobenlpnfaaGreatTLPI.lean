/-
  Laid together: RgaDelF, RgaKidsP, RgaKids, RgaWalk, RgaOrderF, RgaItems, FreeChunk, TopLive, TopAll, TopOf.
-/
import Derived.Test.YtmljgobenlpnfaaGreatTLPH
set_option linter.unusedSimpArgs false
set_option linter.unusedVariables false
set_option maxRecDepth 20000

section
namespace Go.Proofs.YtmljgobenlpnfaaGreat
open Go.Free Go.RowKit Go.Proofs Go.Free.Sorts
set_option maxHeartbeats 8000000
theorem flatE_len (l : List EvV) : (l.flatMap EvV.enc).length = l.length * 26 := evs_len l
def keepE (p : EvV → Bool) (l : List EvV) : List EvV := l.filter fun x => !p x
def dlF (w0 : World) (F : Nat → Prop) (l : List EvV) (g cap : Nat) (f : FuncId) (caps : List Value) (c : Chunk) (p : EvV → Bool) (rest : List Value) (j i : Nat) (junk : List Value) : Env :=
  [(0, .ex (.slice (some ⟨g, 0, none⟩) l.length cap)), (1, .ex (fnV f caps)), (5, .ex (vi i)), (6, .ex (vi j)),
   (1000, heap (fun b => F b ∨ w0.heap.size ≤ b) [blk g 40 ((keepE p (l.take j)).flatMap EvV.enc ++ (junk ++ ((l.drop j).flatMap EvV.enc ++ rest))), c])]
def dlE (w0 : World) (F : Nat → Prop) (l : List EvV) (g cap : Nat) (f : FuncId) (caps : List Value) (c : Chunk) (p : EvV → Bool) (rest : List Value) (s : Nat × Nat × List Value) : Env := dlF w0 F l g cap f caps c p rest s.1 s.2.1 s.2.2
theorem delG_fn (B : Option Addr) (cap : Nat) (l : List EvV) (hl : l.length ≤ 1000000) (f : FuncId) (fn : Func) (caps : List Value) (p : EvV → Bool) (c : Chunk) (hfn : Tryz.prog.funcs[f]? = some fn) (hb : fn.body.isNone = false) (hnm : (fn.name == "runtime.NumGoroutine") = false)
    (hf : ∀ x ∈ l, SpcR Tryz.prog f (.ex (aggE x) :: caps.map .ex) c fun _ => .ex (.bool (p x))) :
    SpcC Tryz.prog 44 [.ex (.slice B l.length cap), .ex (fnV f caps)] (allC [rowEv B l.length cap (evsC l), c])
      (fun _ : Unit => True) (fun _ => .ex (.slice B (keepE p l).length cap)) (fun _ => allC [rowEv B (keepE p l).length cap (evsC (keepE p l)), c]) := by
  refine SpcC.intro Tryz.func44 rfl (Nat.le_of_ble_eq_true rfl) fun w0 F => ?_
  have hI := kept_below F w0
  have hA := Own.kept F w0
  refine J.open1 (key := 1000) rfl ?_
  refine J.factC (key := 1000) (q := 0) rfl rfl (fun w F h => row_room h) fun hrm => ?_
  repeat (first | refine Plan.move rfl rfl rfl rfl ?_ | refine Plan.assign rfl rfl rfl rfl ?_ | refine J.seq (J.region mixed hI (by kernel_rfl) ?_))
  refine Plan.callRG (key := 1000) (B := 0) rfl rfl rfl ((indexG_fn l hl f fn caps p c hfn hb hnm hf).seen (c0 := allC [rowEv B l.length cap (evsC l), c]) (v := .slice B l.length cap) (fun w F ⟨G1, _, _, _, h1, _⟩ => row_rowH h1) (Ent.right.trans Ent.one)) Tryz.func72 rfl rfl (fun _ _ => Nat.zero_le _) (by repeat (first | exact Opnds.nil | refine Opnds.cons rfl (by exact Sub.refl _) ?_)) rfl (Ent.refl _) (by decide) ?_
  repeat (first | refine Plan.move rfl rfl rfl rfl ?_ | refine Plan.assign rfl rfl rfl rfl ?_ | (refine Plan.ints rfl rfl rfl rfl rfl rfl ?_; (skip)) | refine J.seq (J.seq (J.region mixed hI (by kernel_rfl) ?_)))
  refine J.condE rfl (fun hc => ?_) (fun hc => ?_)
  · have hk : keepE p l = l := by
      unfold keepE
      exact List.filter_eq_self.2 fun x hx => by rw [ixp_no hc x hx]; rfl
    rw [hk]
    repeat (first | refine Plan.move rfl rfl rfl rfl ?_ | refine Plan.assign rfl rfl rfl rfl ?_ | refine J.seq (J.region mixed hI (by kernel_rfl) ?_))
    exact J.ret (Nrm.retC1 (key := 1000) () rfl rfl rfl trivial (Sub.refl _) (Ent.refl _))
  obtain ⟨k, hkl, hki, hkg, hkn⟩ := ixp_some hc
  rw [hki]
  obtain ⟨g, rfl⟩ : ∃ g, B = some ⟨g, 0, none⟩ := by
    cases B with
    | none => have := (hrm.2.2.2.1 rfl).1; omega
    | some ad => exact ⟨ad.block, by rw [← hrm.2.2.2.2 ad rfl]⟩
  refine J.convC (key := 1000) (q := 0) rfl rfl row_blk ?_
  refine J.exC (key := 1000) (q := 0) rfl rfl fun rest => ?_
  refine J.purC (key := 1000) (q := 0) rfl rfl fun hrest => ?_
  obtain ⟨hr1, hr2, hr3, hr4⟩ := hrest
  have hkt : keepE p (l.take (k + 1)) = l.take k := by
    unfold keepE
    rw [List.take_succ_eq_append_getElem hkl, List.filter_append, List.filter_cons_of_neg (by rw [hkg]; decide), List.filter_nil, List.append_nil]
    refine List.filter_eq_self.2 fun x hx => ?_
    obtain ⟨j, hj, rfl⟩ := List.getElem_of_mem hx
    rw [List.length_take] at hj
    rw [List.getElem_take, hkn j (by omega) (by omega)]; rfl
  repeat (first | refine Plan.move rfl rfl rfl rfl ?_ | refine Plan.assign rfl rfl rfl rfl ?_ | (refine Plan.ints rfl rfl rfl rfl rfl rfl ?_; (refine Plan.int (i64r (by omega)) ?_)) | refine J.seq (J.seq (J.region mixed hI (by kernel_rfl) ?_)) | refine J.skip ?_)
  refine Plan.int (y := ((k + 1 : Nat) : Int)) (by omega) ?_
  repeat (fail)
  refine J.block (J.loop (dlE w0 F l g cap f caps c p rest) (fun s => s.1 ≤ l.length ∧ s.2.1 < s.1 ∧ s.2.1 = (keepE p (l.take s.1)).length ∧ s.2.2.length = (s.1 - s.2.1) * 26) (fun s => l.length - s.1) (k + 1, k, EvV.enc l[k]) ⟨hkl, Nat.lt_succ_self k, by rw [hkt, List.length_take]; simp only; omega, by show _ = (k + 1 - k) * _; rw [show k + 1 - k = 1 by omega, Nat.one_mul]; rfl⟩ ?_ ?_)
  · have hcs : l.flatMap EvV.enc ++ rest = (keepE p (l.take (k + 1))).flatMap EvV.enc ++ (EvV.enc l[k] ++ ((l.drop (k + 1)).flatMap EvV.enc ++ rest)) := by
      rw [hkt, ← List.append_assoc, ← List.append_assoc]
      congr 1
      have : l.flatMap EvV.enc = (l.take k ++ l[k] :: l.drop (k + 1)).flatMap EvV.enc := by rw [List.getElem_cons_drop, List.take_append_drop]
      rw [this, List.flatMap_append, List.flatMap_cons, ← List.append_assoc]
    rw [hcs]
    repeat (first | exact Weak.nil | refine Weak.cons rfl (Sub.refl _) ?_)
  rintro ⟨j, i, junk⟩ ⟨hj, hij, hi, hjl⟩
  simp only at hj hij hi hjl
  change J _ _ _ _ _ (dlF w0 F l g cap f caps c p rest j i junk)
  have hKl := flatE_len (keepE p (l.take j))
  rw [← hi] at hKl
  have hDl := flatE_len (l.drop j)
  rw [List.length_drop] at hDl
  repeat (first | refine Plan.move rfl rfl rfl rfl ?_ | refine Plan.lenE rfl rfl rfl rfl (by exact Tryz.underlying22) ?_ | (refine Plan.ints rfl rfl rfl rfl rfl rfl ?_; (skip)) | refine J.seq (J.seq (J.region mixed hI (by kernel_rfl) ?_)))
  refine J.condD rfl (fun hc => ?_) (fun hc => ?_)
  · have hlt : j < l.length := by omega
    have hd : l.drop j = l[j] :: l.drop (j + 1) := (List.getElem_cons_drop (h := hlt)).symm
    repeat (refine J.skip ?_)
    refine J.seq (J.block ?_)
    repeat (first | refine Plan.move rfl rfl rfl rfl ?_ | refine J.seq (J.region mixed hI (by kernel_rfl) ?_))
    refine Plan.indexC (off := j * 26) rfl rfl rfl rfl rfl eltE hlt (by omega) ?_
    refine Plan.loadAggC (key := 1000) (q := 0) (vs := EvV.enc l[j]) rfl rfl rfl rfl rfl rfl (blk_reads ?_) Tryz.underlying40 rfl (by rw [encE]; kernel_rfl) (by decide) ?_
    · rw [← List.append_assoc, List.drop_left' (by rw [List.length_append, hKl, hjl, ← Nat.add_mul]; congr 1; omega), hd, List.flatMap_cons, List.append_assoc, List.take_left]
    refine Plan.allocC (key := 1000) (z := .agg (EvV.enc ev0).toArray) rfl rfl rfl (by intro _ e; cases e; decide) (by kernel_rfl) rfl hA fun γ => ?_
    refine Plan.storeC (key := 1000) (q := 2) (off := 0) rfl rfl rfl rfl rfl rfl (fun u hu => encE_one _ u hu) (by kernel_rfl) rfl hA rfl (obj_pat (show 0 + (EvV.enc l[j]).length ≤ (EvV.enc ev0).length by rw [encE, encE]; omega)) ?_
    have hobj : (EvV.enc ev0).take 0 ++ EvV.enc l[j] ++ (EvV.enc ev0).drop (0 + (EvV.enc l[j]).length) = EvV.enc l[j] := by
      rw [List.take_zero, List.nil_append, List.drop_of_length_le (by rw [encE, encE]; omega), List.append_nil]
    obtain ⟨K, hK⟩ : ∃ K, K = (keepE p (l.take j)).flatMap EvV.enc := ⟨_, rfl⟩
    obtain ⟨T, hT⟩ : ∃ T, T = (l.drop (j + 1)).flatMap EvV.enc ++ rest := ⟨_, rfl⟩
    have hcs : (keepE p (l.take j)).flatMap EvV.enc ++ (junk ++ ((l.drop j).flatMap EvV.enc ++ rest)) = K ++ (junk ++ (EvV.enc l[j] ++ T)) := by rw [hd, List.flatMap_cons, List.append_assoc, ← hK, ← hT]
    rw [← hK] at hKl
    have hks : keepE p (l.take (j + 1)) = keepE p (l.take j) ++ if p l[j] then [] else [l[j]] := by
      unfold keepE
      rw [List.take_succ_eq_append_getElem hlt, List.filter_append]
      congr 1
      cases hgg : p l[j] <;> simp [List.filter_cons, hgg]
    refine J.regroup (key := 1000) [blk g 40 (K ++ (junk ++ (EvV.enc l[j] ++ T))), c, obj γ (EvV.enc l[j])] rfl (Ent.sep (Ent.blkEq hcs) (Ent.sep (Ent.refl _) (Ent.sep (Ent.of_eq (congrArg (obj γ) hobj)) (Ent.refl _)))) ?_
    repeat (first | refine Plan.move rfl rfl rfl rfl ?_ | refine J.seq (J.region mixed hI (by kernel_rfl) ?_))
    refine Plan.loadAggC (key := 1000) (q := 2) (vs := EvV.enc l[j]) rfl rfl rfl rfl rfl rfl obj_whole Tryz.underlying40 rfl (by rw [encE]; kernel_rfl) (by decide) ?_
    refine Plan.callFR (key := 1000) (B := 0) (fs := [.ex (.agg (EvV.enc l[j]).toArray)]) (caps := caps) rfl rfl rfl rfl (hf l[j] (List.getElem_mem hlt)) hfn hb hnm (fun _ _ => Nat.zero_le _) (Opnds.cons rfl (Sub.refl _) Opnds.nil) rfl (Ent.right.trans Ent.left) (by decide) ?_
    repeat (refine Plan.un rfl rfl rfl rfl rfl ?_)
    refine J.cond rfl (fun hg => ?_) (fun hg => ?_)
    · have hg' : p l[j] = false := by simpa using hg
      rw [hg', if_neg (by decide)] at hks
      have hlen : (keepE p (l.take (j + 1))).length = i + 1 := by rw [hks, List.length_append, ← hi]; rfl
      have hKl2 : K.length = i * 26 := hKl
      have hjs : 26 ≤ junk.length := by rw [hjl]; omega
      have hcs2 : (K ++ (junk ++ (EvV.enc l[j] ++ T))).take (i * 26) ++ EvV.enc l[j] ++ (K ++ (junk ++ (EvV.enc l[j] ++ T))).drop (i * 26 + (EvV.enc l[j]).length) = (keepE p (l.take (j + 1))).flatMap EvV.enc ++ ((junk.drop 26 ++ EvV.enc l[j]) ++ T) := by
        rw [List.take_left' hKl2, ← List.drop_drop, List.drop_left' hKl2, encE, List.drop_append_of_le_length hjs, hks, List.flatMap_append, ← hK]
        simp only [List.flatMap_cons, List.flatMap_nil, List.append_nil, List.append_assoc]
      repeat (first | refine Plan.move rfl rfl rfl rfl ?_ | refine J.seq (J.region mixed hI (by kernel_rfl) ?_))
      refine Plan.loadAggC (key := 1000) (q := 2) (vs := EvV.enc l[j]) rfl rfl rfl rfl rfl rfl obj_whole Tryz.underlying40 rfl (by rw [encE]; kernel_rfl) (by decide) ?_
      refine Plan.indexC (off := i * 26) rfl rfl rfl rfl rfl eltE (by omega) (by omega) ?_
      refine Plan.storeC (key := 1000) (q := 0) (off := i * 26) rfl rfl rfl rfl rfl rfl (fun u hu => encE_one _ u hu) (by kernel_rfl) rfl hA rfl (blk_pat (show i * 26 + (EvV.enc l[j]).length ≤ _ by rw [List.length_append, List.length_append, List.length_append, encE, hKl2]; omega)) ?_
      repeat (first | refine Plan.move rfl rfl rfl rfl ?_ | refine Plan.assign rfl rfl rfl rfl ?_ | (refine Plan.ints rfl rfl rfl rfl rfl rfl ?_; (refine Plan.int (i64r (by omega)) ?_)) | refine J.region mixed hI (by kernel_rfl) ?_)
      refine Plan.int (y := ((j + 1 : Nat) : Int)) (by omega) ?_
      repeat (fail)
      refine Nrm.next (j + 1, i + 1, junk.drop 26 ++ EvV.enc l[j]) ⟨by simp only; omega, by simp only; omega, hlen.symm, by simp only; rw [List.length_append, List.length_drop, encE, hjl]; omega⟩ (by simp only; omega) ?_
      refine Weak.cons rfl (Sub.refl _) (Weak.cons rfl (Sub.refl _) (Weak.cons rfl (Sub.refl _) (Weak.cons rfl (Sub.refl _) (Weak.cons rfl (Sub.heap (Ent.sep (Ent.blkEq ?_) (Ent.sep (Ent.refl _) Ent.emp))) Weak.nil))))
      rw [← hT]; exact hcs2
    · have hg' : p l[j] = true := by simpa using hg
      rw [hg', if_pos rfl, List.append_nil] at hks
      repeat (first | refine Plan.move rfl rfl rfl rfl ?_ | refine Plan.assign rfl rfl rfl rfl ?_ | (refine Plan.ints rfl rfl rfl rfl rfl rfl ?_; (refine Plan.int (i64r (by omega)) ?_)) | refine J.region mixed hI (by kernel_rfl) ?_ | refine J.skip ?_)
      refine Plan.int (y := ((j + 1 : Nat) : Int)) (by omega) ?_
      repeat (fail)
      refine Nrm.next (j + 1, i, junk ++ EvV.enc l[j]) ⟨by simp only; omega, by simp only; omega, by simp only; rw [hks]; exact hi, by simp only; rw [List.length_append, encE, hjl]; omega⟩ (by simp only; omega) ?_
      refine Weak.cons rfl (Sub.refl _) (Weak.cons rfl (Sub.refl _) (Weak.cons rfl (Sub.refl _) (Weak.cons rfl (Sub.refl _) (Weak.cons rfl (Sub.heap (Ent.sep (Ent.blkEq ?_) (Ent.sep (Ent.refl _) Ent.emp))) Weak.nil))))
      simp only
      rw [hks, ← hK, ← hT, List.append_assoc]
  have hje : j = l.length := by omega
  subst hje
  rw [List.take_length] at hKl hi
  rw [List.drop_length] at hDl
  have hcs : (keepE p (l.take l.length)).flatMap EvV.enc ++ (junk ++ ((l.drop l.length).flatMap EvV.enc ++ rest)) = (keepE p l).flatMap EvV.enc ++ (junk ++ rest) := by rw [List.take_length, List.drop_length]; rfl
  have hrl : rest.length = (cap - l.length) * 26 := by rw [List.length_append, hr2] at hr1; omega
  rw [← hi]
  refine J.exit ?_
  refine J.regroup (key := 1000) [blk g 40 ((keepE p l).flatMap EvV.enc ++ (junk ++ rest)), c] rfl (Ent.sep (Ent.blkEq hcs) (Ent.refl _)) ?_
  repeat (first | refine Plan.move rfl rfl rfl rfl ?_ | refine J.seq (J.region mixed hI (by kernel_rfl) ?_))
  refine Plan.sliceLo (a0 := i) rfl rfl rfl rfl eltE rfl (by omega) (by omega) (by omega) ?_
  refine Plan.clearC (key := 1000) (q := 0) rfl rfl rfl rfl rfl eltE rfl hA rfl (fun u hu => encE_one ev0 u hu) (by rw [List.length_append, List.length_append, hKl, hjl]; omega) fun zs hzs => ?_
  have hfin : ((keepE p l).flatMap EvV.enc ++ (junk ++ rest)).take (0 + i * 26) ++ zs ++ ((keepE p l).flatMap EvV.enc ++ (junk ++ rest)).drop (0 + i * 26 + (l.length - i) * 26) = (keepE p l).flatMap EvV.enc ++ (zs ++ rest) := by
    rw [Nat.zero_add, List.take_left' hKl, ← List.drop_drop, List.drop_left' hKl, List.drop_left' hjl, List.append_assoc]
  rw [hfin]
  repeat (first | refine Plan.move rfl rfl rfl rfl ?_ | refine J.seq (J.region mixed hI (by kernel_rfl) ?_))
  refine Plan.sliceHi (b0 := i) rfl rfl rfl rfl eltE rfl (by omega) ?_
  repeat (refine Plan.assign rfl rfl rfl rfl ?_)
  refine J.ret (Nrm.retC1 (key := 1000) () rfl rfl rfl trivial (Sub.refl _) (Ent.sep ?_ (Ent.refl _)))
  exact blk_row (by rw [List.length_append, List.length_append, hKl, hzs, hrl]; show _ = cap * 26; omega) hKl (show i ≤ cap by omega) (show cap ≤ _ by omega)
end Go.Proofs.YtmljgobenlpnfaaGreat
end

section
namespace Go.Free
open Go.RowKit
theorem Ent.lastOut {L : List Chunk} {j : Nat} {c : Chunk} (h : L[j]? = some c) : Ent (allC [allC L]) (allC [c, allC (L.eraseIdx j)]) := Ent.one.trans ((Ent.takeOut h).trans (Ent.sep (Ent.refl _) Ent.addEmp))
theorem Ent.lastIn {L : List Chunk} {j : Nat} {c : Chunk} (h : j < L.length) : Ent (allC [c, allC (L.eraseIdx j)]) (allC [allC (L.set j c)]) := (Ent.sep (Ent.refl _) Ent.one).trans ((Ent.layBack h).trans Ent.addEmp)
theorem Ent.lastAdd {L : List Chunk} {c : Chunk} : Ent (allC [allC L, c]) (allC [allC (L ++ [c])]) := (Ent.joinC (H1 := L) (H2 := [c])).trans Ent.addEmp
theorem Ent.group2 {a b : Chunk} {R : List Chunk} : Ent (allC (a :: b :: R)) (allC (allC [a, b] :: R)) := Ent.assocL.trans (Ent.sep (Ent.sep (Ent.refl _) Ent.addEmp) (Ent.refl _))
theorem Ent.ungroup2 {a b : Chunk} {R : List Chunk} : Ent (allC (allC [a, b] :: R)) (allC (a :: b :: R)) := (Ent.sep (Ent.sep (Ent.refl _) Ent.one) (Ent.refl _)).trans Ent.assocR
end Go.Free
namespace Go.Proofs.YtmljgobenlpnfaaGreat
open Go.Free Go.RowKit Go.Proofs Go.Free.Sorts
set_option maxHeartbeats 4000000
structure KE where
  k : Int
  B : Option Addr
  cap : Nat
  xs : List Nat
abbrev intsL (xs : List Nat) : List Value := xs.map fun x : Nat => (Value.int .i64 (x : Int))
def KE.val (e : KE) : Value := .slice e.B e.xs.length e.cap
def KE.row (e : KE) : Chunk := rowC 3 1 e.B e.xs.length e.cap (intsL e.xs)
def kvsM (es : List KE) : List (Int × Value) := es.map fun e => (e.k, e.val)
def pk (n : List EvV) (j : Nat) : Int := match parM n (n.getD j ev0) with | none => -1 | some p => (p : Int)
def grp (n : List EvV) (i : Nat) (k : Int) : List Nat := (List.range i).filter fun j => decide (pk n j = k)
theorem grp_succ (n : List EvV) (i : Nat) (k : Int) : grp n (i + 1) k = if pk n i = k then grp n i k ++ [i] else grp n i k := by
  unfold grp
  rw [List.range_succ, List.filter_append]
  by_cases h : pk n i = k
  · rw [if_pos h]; simp [h]
  · rw [if_neg h]; simp [h]
structure GrpOk (n : List EvV) (i : Nat) (es : List KE) : Prop where
  nd : (es.map (·.k)).Nodup
  xs : ∀ e ∈ es, e.xs = grp n i e.k
  all : ∀ j, j < i → pk n j ∈ es.map (·.k)
  some : ∀ e ∈ es, e.xs ≠ []
theorem grp_none (n : List EvV) : GrpOk n 0 [] := ⟨List.nodup_nil, by simp, fun j h => by omega, by simp⟩
theorem nodup_at {es : List KE} (h : (es.map (·.k)).Nodup) {i j : Nat} {a b : KE} (hi : es[i]? = some a) (hj : es[j]? = some b) (hk : a.k = b.k) : i = j := by
  obtain ⟨h1, rfl⟩ := List.getElem?_eq_some_iff.1 hi
  obtain ⟨h2, rfl⟩ := List.getElem?_eq_some_iff.1 hj
  have h3 := List.pairwise_iff_getElem.1 h
  rcases Nat.lt_trichotomy i j with hl | hl | hl
  · exact absurd (by rw [List.getElem_map, List.getElem_map]; exact hk) (h3 i j (by simpa using h1) (by simpa using h2) hl)
  · exact hl
  · exact absurd (by rw [List.getElem_map, List.getElem_map]; exact hk.symm) (h3 j i (by simpa using h2) (by simpa using h1) hl)
theorem find_in {es : List KE} (h : (es.map (·.k)).Nodup) {j : Nat} {e : KE} (hj : es[j]? = some e) : (kvsM es).findIdx? (fun p => decide (p.1 = e.k)) = some j := by
  obtain ⟨h1, he⟩ := List.getElem?_eq_some_iff.1 hj
  rw [List.findIdx?_eq_some_iff_getElem]
  refine ⟨by simpa [kvsM] using h1, by simp [kvsM, he], fun i hi => ?_⟩
  simp only [kvsM, List.getElem_map, decide_eq_true_eq]
  intro hk
  have := nodup_at h (List.getElem?_eq_getElem (show i < es.length by omega)) hj hk
  omega
theorem find_out {es : List KE} {k : Int} (h : k ∉ es.map (·.k)) : (kvsM es).findIdx? (fun p => decide (p.1 = k)) = none := by
  rw [List.findIdx?_eq_none_iff]
  intro p hp
  obtain ⟨e, he, rfl⟩ := List.mem_map.1 hp
  simp only [decide_eq_false_iff_not]
  intro hk
  exact h (List.mem_map.2 ⟨e, he, hk⟩)
theorem kvs_len (es : List KE) : (kvsM es).length = es.length := by simp [kvsM]
theorem mapAt_in {es : List KE} (h : (es.map (·.k)).Nodup) {j : Nat} {e : KE} (hj : es[j]? = some e) (z : Value) : mapAt z (kvsM es) e.k = e.val := by
  have hf := find_in h hj
  rw [List.findIdx?_eq_some_iff_getElem] at hf
  obtain ⟨h1, h2, h3⟩ := hf
  have : (kvsM es).find? (fun p => decide (p.1 = e.k)) = some (kvsM es)[j] := by
    rw [List.find?_eq_some_iff_getElem]
    exact ⟨h2, j, h1, rfl, fun l hl => by simpa using h3 l hl⟩
  unfold mapAt
  rw [this]
  obtain ⟨h4, he⟩ := List.getElem?_eq_some_iff.1 hj
  simp [kvsM, he]
theorem mapAt_out {es : List KE} {k : Int} (h : k ∉ es.map (·.k)) (z : Value) : mapAt z (kvsM es) k = z := by
  have hf := find_out h
  rw [List.findIdx?_eq_none_iff] at hf
  unfold mapAt
  rw [List.find?_eq_none.2 fun x hx => by simpa using hf x hx]
theorem putV_in {es : List KE} (h : (es.map (·.k)).Nodup) {j : Nat} {e e' : KE} (hj : es[j]? = some e) (hk : e'.k = e.k) : putV (kvsM es) e.k e'.val = kvsM (es.set j e') := by
  unfold putV
  rw [find_in h hj]
  simp [kvsM, List.map_set, hk]
theorem putV_out {es : List KE} {e : KE} (h : e.k ∉ es.map (·.k)) : putV (kvsM es) e.k e.val = kvsM (es ++ [e]) := by
  unfold putV
  rw [find_out h]
  simp [kvsM]
theorem GrpOk.more {n : List EvV} {i : Nat} {es : List KE} (h : GrpOk n i es) {j : Nat} {e e' : KE} (hj : es[j]? = Option.some e) (hk : e.k = pk n i) (hk' : e'.k = e.k) (hx : e'.xs = e.xs ++ [i]) : GrpOk n (i + 1) (es.set j e') := by
  obtain ⟨hjl, hje⟩ := List.getElem?_eq_some_iff.1 hj
  have hkeys : (es.set j e').map (·.k) = es.map (·.k) := by
    rw [List.map_set, hk']
    apply List.ext_getElem?
    intro m
    rw [List.getElem?_set]
    by_cases hm : j = m
    · subst hm; simp [hjl, hje]
    · rw [if_neg hm]
  refine ⟨by rw [hkeys]; exact h.nd, fun x hx2 => ?_, fun l hl => ?_, fun x hx2 => ?_⟩
  · rw [grp_succ]
    obtain ⟨m, hm, rfl⟩ := List.getElem_of_mem hx2
    rw [List.getElem_set]
    by_cases hjm : j = m
    · rw [if_pos hjm, hk', if_pos hk.symm, hx, h.xs e (List.mem_of_getElem? hj)]
    · rw [if_neg hjm]
      have hml : m < es.length := by simpa using hm
      have hne : ¬ pk n i = es[m].k := fun hc => hjm (nodup_at h.nd hj (List.getElem?_eq_getElem hml) (hk.trans hc))
      rw [if_neg hne]
      exact h.xs _ (List.getElem_mem hml)
  · rw [hkeys]
    by_cases hli : l = i
    · subst hli; rw [← hk]; exact List.mem_map.2 ⟨e, List.mem_of_getElem? hj, rfl⟩
    · exact h.all l (by omega)
  · rcases List.mem_or_eq_of_mem_set hx2 with hm | rfl
    · exact h.some x hm
    · rw [hx]; simp
theorem GrpOk.new {n : List EvV} {i : Nat} {es : List KE} (h : GrpOk n i es) {e : KE} (hk : e.k = pk n i) (ho : e.k ∉ es.map (·.k)) (hx : e.xs = [i]) : GrpOk n (i + 1) (es ++ [e]) := by
  have hg : grp n i e.k = [] := by
    unfold grp
    rw [List.filter_eq_nil_iff]
    intro j hj
    simp only [decide_eq_true_eq]
    intro hc
    exact ho (hc ▸ h.all j (List.mem_range.1 hj))
  refine ⟨?_, fun x hx2 => ?_, fun l hl => ?_, fun x hx2 => ?_⟩
  · rw [List.map_append, List.nodup_append]
    refine ⟨h.nd, by simp, fun a ha b hb => ?_⟩
    simp only [List.map_cons, List.map_nil, List.mem_singleton] at hb
    rw [hb]; intro hab; exact ho (hab ▸ ha)
  · rw [grp_succ]
    rcases List.mem_append.1 hx2 with hx2 | hx2
    · have hne : ¬ pk n i = x.k := fun hc => ho (by rw [hk, hc]; exact List.mem_map.2 ⟨x, hx2, rfl⟩)
      rw [if_neg hne]; exact h.xs x hx2
    · rw [List.mem_singleton] at hx2
      subst hx2
      rw [if_pos hk.symm, hg, hx]; rfl
  · rw [List.map_append]
    by_cases hli : l = i
    · subst hli; rw [← hk]; simp
    · exact List.mem_append.2 (.inl (h.all l (by omega)))
  · rcases List.mem_append.1 hx2 with hx2 | hx2
    · exact h.some x hx2
    · rw [List.mem_singleton] at hx2
      subst hx2; rw [hx]; simp
def doneE (n : List EvV) (es : List KE) (seen : List Nat) : List KE := es.mapIdx fun j e => if j ∈ seen then { e with xs := sortK n e.xs } else e
theorem sortK_len (n : List EvV) (xs : List Nat) : (sortK n xs).length = xs.length := (List.mergeSort_perm xs _).length_eq
theorem done_none (n : List EvV) (es : List KE) : doneE n es [] = es := by
  unfold doneE
  apply List.ext_getElem?
  intro j; rw [List.getElem?_mapIdx]; cases es[j]? <;> simp
theorem done_len (n : List EvV) (es : List KE) (seen : List Nat) : (doneE n es seen).length = es.length := by simp [doneE]
theorem done_kvs (n : List EvV) (es : List KE) (seen : List Nat) : kvsM (doneE n es seen) = kvsM es := by
  unfold doneE kvsM
  apply List.ext_getElem?
  intro j
  rw [List.getElem?_map, List.getElem?_map, List.getElem?_mapIdx]
  cases es[j]? with
  | none => rfl
  | some e =>
    simp only [Option.map_some]
    split <;> simp [KE.val, sortK_len]
theorem done_at {n : List EvV} {es : List KE} {seen : List Nat} {j : Nat} {e : KE} (hj : es[j]? = some e) (hs : j ∉ seen) : (doneE n es seen)[j]? = some e := by
  unfold doneE
  rw [List.getElem?_mapIdx, hj]
  simp [hs]
theorem done_more {n : List EvV} {es : List KE} {seen : List Nat} {j : Nat} {e : KE} (hj : es[j]? = some e) (hs : j ∉ seen) : (doneE n es seen).set j { e with xs := sortK n e.xs } = doneE n es (seen ++ [j]) := by
  obtain ⟨hjl, hje⟩ := List.getElem?_eq_some_iff.1 hj
  unfold doneE
  apply List.ext_getElem?
  intro m
  rw [List.getElem?_set, List.getElem?_mapIdx, List.getElem?_mapIdx]
  by_cases hm : j = m
  · subst hm
    rw [if_pos rfl, if_pos (by simpa using hjl), hj]
    simp
  · rw [if_neg hm]
    have : m ∈ seen ++ [j] ↔ m ∈ seen := by simp; intro h; exact absurd h.symm hm
    simp only [this]
structure KidsOk (n : List EvV) (es : List KE) : Prop where
  nd : (es.map (·.k)).Nodup
  xs : ∀ e ∈ es, e.xs = sortK n (grp n n.length e.k)
  all : ∀ j, j < n.length → pk n j ∈ es.map (·.k)
theorem GrpOk.kids {n : List EvV} {es : List KE} (h : GrpOk n n.length es) {seen : List Nat} (hs : ∀ j, j < es.length → j ∈ seen) : KidsOk n (doneE n es seen) := by
  have hkeys : (doneE n es seen).map (·.k) = es.map (·.k) := by
    have := congrArg (List.map Prod.fst) (done_kvs n es seen)
    rw [kvsM, kvsM, List.map_map, List.map_map] at this
    exact this
  refine ⟨by rw [hkeys]; exact h.nd, fun x hx => ?_, by rw [hkeys]; exact h.all⟩
  obtain ⟨j, hj, rfl⟩ := List.getElem_of_mem hx
  have hjl : j < es.length := by rw [done_len] at hj; exact hj
  have h3 : (doneE n es seen)[j]? = Option.some { es[j] with xs := sortK n es[j].xs } := by
    unfold doneE
    rw [List.getElem?_mapIdx, List.getElem?_eq_getElem hjl]
    simp [hs j hjl]
  obtain ⟨_, this⟩ := List.getElem?_eq_some_iff.1 h3
  rw [this]
  show sortK n es[j].xs = _
  rw [h.xs _ (List.getElem_mem hjl)]
def leftN (N : Nat) (seen : List Nat) : Nat := ((List.range N).filter fun j => decide (j ∉ seen)).length
theorem left_less {N j : Nat} {seen : List Nat} (hj : j < N) (hs : j ∉ seen) : leftN N (seen ++ [j]) < leftN N seen :=
  filter_less (x := j) (fun y _ hy => by simp only [decide_eq_true_eq, List.mem_append, not_or] at hy ⊢; exact hy.1) (List.mem_range.2 hj) (by simp) (by simp [hs])
theorem grp_inc (n : List EvV) (i : Nat) (k : Int) : (grp n i k).Pairwise (· < ·) := List.Pairwise.filter _ List.pairwise_lt_range
theorem grp_lt {n : List EvV} {i : Nat} {k : Int} {x : Nat} (h : x ∈ grp n i k) : x < i := by
  unfold grp at h; rw [List.mem_filter, List.mem_range] at h; exact h.1
theorem intsL_F (xs : List Nat) : intsL xs = intsF (fun i => xs.getD i 0) xs.length := by
  unfold intsF
  apply List.ext_getElem?
  intro j
  by_cases hj : j < xs.length
  · simp [hj]
  · simp [hj]
theorem intsF_L (f : Nat → Nat) (n : Nat) : intsF f n = intsL ((List.range n).map f) := by simp [intsF, intsL]
theorem sort_done {n : List EvV} {xs : List Nat} {h : Nat → Nat} (hnd : xs.Nodup) (hm : Mix 0 xs.length (fun i => xs.getD i 0) h) (hs : SortedF (aheadR n) 0 xs.length h) : (List.range xs.length).map h = sortK n xs := by
  refine sortK_one hnd ?_ fun v => ?_
  · rw [List.pairwise_map]
    have hr : (List.range xs.length).Pairwise (fun i j => i < j ∧ i < xs.length ∧ j < xs.length) := by
      rw [List.pairwise_iff_getElem]
      intro i j hi hj hij
      simp only [List.getElem_range]
      exact ⟨hij, by simpa using hi, by simpa using hj⟩
    exact hr.imp fun {i j} ⟨h1, h2, h3⟩ => hs i j (Nat.zero_le _) h1 h3
  · rw [List.mem_map]
    constructor
    · rintro ⟨i, hi, rfl⟩
      obtain ⟨k, _, k2, e⟩ := hm.fro i (Nat.zero_le _) (List.mem_range.1 hi)
      rw [e]
      simp [k2]
    · intro hv
      obtain ⟨i, hi, rfl⟩ := List.getElem_of_mem hv
      obtain ⟨k, _, k2, e⟩ := hm.to i (Nat.zero_le _) hi
      refine ⟨k, List.mem_range.2 k2, ?_⟩
      rw [← e]; simp [hi]
end Go.Proofs.YtmljgobenlpnfaaGreat
end

section
namespace Go.Proofs.YtmljgobenlpnfaaGreat
open Go.Free Go.RowKit Go.Proofs Go.Free.Sorts
set_option maxHeartbeats 8000000
abbrev nilS : Value := .slice none 0 0
abbrev cellB (β : Nat) (B : Option Addr) (m cap : Nat) : Chunk := obj β [.slice B m cap]
def kaE (F : Nat → Prop) (w0 : World) (β μ : Nat) (B : Option Addr) (cap : Nat) (n : List EvV) (s : Nat × List KE) : Env :=
  [(1, .ex (ptr β)), (3, .ex (mapV μ)), (10, .ex (.slice B n.length cap)), (11, .ex (vi n.length)), (12, .ex (vi s.1)),
   (1000, heap (fun b => F b ∨ w0.heap.size ≤ b) [rowEv B n.length cap (evsC n), cellB β B n.length cap, mapC μ (kvsM s.2), allC (s.2.map KE.row)])]
def kbE (F : Nat → Prop) (w0 : World) (β μ : Nat) (B : Option Addr) (cap : Nat) (n : List EvV) (i : Nat) (es : List KE) (p : Int) : Env :=
  [(1, .ex (ptr β)), (3, .ex (mapV μ)), (4, .ex (vi i)), (6, .ex (vi p)), (10, .ex (.slice B n.length cap)), (11, .ex (vi n.length)), (12, .ex (vi i)),
   (1000, heap (fun b => F b ∨ w0.heap.size ≤ b) [rowEv B n.length cap (evsC n), cellB β B n.length cap, mapC μ (kvsM es), allC (es.map KE.row)])]
def kcE (F : Nat → Prop) (w0 : World) (β μ r : Nat) (B : Option Addr) (cap : Nat) (n : List EvV) (es : List KE) (seen : List Nat) : Env :=
  [(1, .ex (ptr β)), (3, .ex (mapV μ)), (35, .ex (ptr r)),
   (1000, heap (fun b => F b ∨ w0.heap.size ≤ b) [rowEv B n.length cap (evsC n), cellB β B n.length cap, mapC μ (kvsM es), iterC r μ (kvsM es).length seen, allC ((doneE n es seen).map KE.row)])]
theorem kids_fn (B : Option Addr) (cap : Nat) (n : List EvV) (hn : n.length ≤ 1000000) (hok : ∀ x ∈ n, x.okV) :
    SpcC Tryz.prog 74 [.ex (.slice B n.length cap)] (rowEv B n.length cap (evsC n)) (fun x : Nat × List KE => KidsOk n x.2) (fun x => .ex (mapV x.1))
      (fun x => allC [rowEv B n.length cap (evsC n), mapC x.1 (kvsM x.2), allC (x.2.map KE.row)]) := by
  refine SpcC.intro Tryz.func74 rfl (Nat.le_of_ble_eq_true rfl) fun w0 F => ?_
  have hI := kept_below F w0
  have hA := Own.kept F w0
  refine J.seq (J.region mixed hI (by kernel_rfl) ?_)
  refine Plan.boxC (key := 1000) rfl rfl rfl (by intro _ e; cases e; decide) rfl rfl hA fun β => ?_
  repeat (refine Plan.assign rfl rfl rfl rfl ?_)
  refine J.seq (J.region mixed hI (by kernel_rfl) ?_)
  refine Plan.makeMapC (key := 1000) rfl rfl rfl (by intro _ e; cases e; decide) rfl hA fun μ => ?_
  repeat (refine Plan.assign rfl rfl rfl rfl ?_)
  refine J.seq (J.seq (J.region mixed hI (by kernel_rfl) ?_))
  repeat (first | refine Plan.move rfl rfl rfl rfl ?_ | refine Plan.lenE rfl rfl rfl rfl (by exact Tryz.underlying22) ?_ | refine Plan.loadC (key := 1000) (q := 1) rfl rfl rfl rfl rfl rfl (obj_reads1 rfl) (by first | exact Tryz.underlying3 | exact Tryz.underlying22) (by rfl) (by decide) ?_)
  refine J.block (J.loop (kaE F w0 β μ B cap n) (fun s => s.1 ≤ n.length ∧ GrpOk n s.1 s.2) (fun s => n.length - s.1) (0, []) ⟨Nat.zero_le _, grp_none n⟩ ?_ ?_)
  · exact (by repeat (first | exact Weak.nil | refine Weak.cons rfl (Sub.refl _) ?_ | refine Weak.cons rfl (Sub.heap (Ent.sep (Ent.refl _) (Ent.sep (Ent.refl _) (Ent.sep (Ent.refl _) Ent.addEmp)))) ?_))
  rintro ⟨i, es⟩ ⟨hi, hg⟩
  simp only at hi hg
  change J _ _ _ _ _ (kaE F w0 β μ B cap n (i, es))
  refine J.seq (J.region mixed hI (by kernel_rfl) ?_)
  repeat ((refine Plan.ints rfl rfl rfl rfl rfl rfl ?_; (skip)))
  refine J.seq (J.condD rfl (fun hc => ?_) (fun hc => ?_))
  · have hlt : i < n.length := by
      first | omega | (dsimp only at hc; omega)
    obtain ⟨e, he⟩ : ∃ e, e = n[i] := ⟨_, rfl⟩
    have heo : e.okV := by rw [he]; exact hok _ (List.getElem_mem hlt)
    have hpk : pk n i = if e.rr = 0 ∧ e.rn = 0 then -1 else idxM n e := by
      unfold pk parM
      rw [getD_at hlt, ← he]
      by_cases h0 : e.rr = 0 ∧ e.rn = 0
      · rw [if_pos h0, if_pos h0]
      · rw [if_neg h0, if_neg h0]; unfold idxM; cases n.findIdx? (hangs e) <;> rfl
    refine J.skip ?_
    refine J.tellC (key := 1000) (q := 0) rfl rfl (row_at (by rw [evs_len]; omega)) ?_
    rintro ⟨g, rfl⟩
    refine J.seq (J.block ?_)
    refine J.seq (J.region mixed hI (by kernel_rfl) ?_)
    repeat (refine Plan.move rfl rfl rfl rfl ?_)
    refine Plan.indexC (off := i * 26) rfl rfl rfl rfl rfl eltE hlt (by omega) ?_
    refine Plan.loadAggC (key := 1000) (q := 0) (off := i * 26) (vs := e.enc) rfl rfl rfl rfl rfl rfl (row_reads (by rw [he]; exact evs_at n hlt)) Tryz.underlying40 rfl (by rw [encE]; kernel_rfl) (by decide) ?_
    refine Plan.allocC (key := 1000) (z := .agg ev0.enc.toArray) rfl rfl rfl (by intro _ e; cases e; decide) (by kernel_rfl) rfl hA fun ξ => ?_
    repeat (refine Plan.assign rfl rfl rfl rfl ?_)
    refine Plan.storeC (key := 1000) (q := 4) (off := 0) rfl rfl rfl rfl rfl rfl (by simp [Value.cells, Value.oneCell', EvV.enc, str]) (by show _ = some e.enc.toArray.size; kernel_rfl) rfl hA rfl (obj_pat (Nat.le_of_ble_eq_true rfl)) ?_
    repeat (fail)
    refine J.seq (J.region mixed hI (by kernel_rfl) ?_)
    repeat (refine Plan.assign rfl rfl rfl rfl ?_)
    refine J.seqMid (σ := Unit) (fun _ => kbE F w0 β μ (some ⟨g, 0, none⟩) cap n i es (pk n i)) (fun _ => True) ?_ ?_
    · refine J.seq (J.region mixed hI (by kernel_rfl) ?_)
      repeat (refine Plan.fieldC rfl rfl rfl rfl (by first | exact Tryz.underlying40 | exact Tryz.underlying38) rfl (by kernel_rfl) (by first | exact (rfl : _ = 19) | exact (rfl : _ = 24)) ?_)
      refine Plan.loadAggC (key := 1000) (q := 4) (vs := [vi e.rr, vi e.rn]) rfl rfl rfl rfl rfl rfl (obj_reads rfl) Tryz.underlying34 rfl (by kernel_rfl) (by decide) ?_
      refine Plan.build (cells := #[vi 0, vi 0]) rfl rfl (ps := []) rfl Parts.nil (by kernel_rfl) ?_
      refine Plan.neqDt (e.rr, e.rn) (0, 0) rfl rfl rfl rfl rfl ⟨heo.2.2.2.2.2.2.2.2.2.1, heo.2.2.2.2.2.2.2.2.2.2⟩ ⟨⟨by decide, by decide⟩, ⟨by decide, by decide⟩⟩ ?_
      refine J.condND rfl (fun hd => ?_) (fun hd => ?_)
      · have h0 : ¬ (e.rr = 0 ∧ e.rn = 0) := fun h => hd (by rw [h.1, h.2])
        rw [hpk, if_neg h0]
        refine J.region mixed hI (by kernel_rfl) ?_
        repeat (refine Plan.loadC (key := 1000) (q := 1) rfl rfl rfl rfl rfl rfl (obj_reads1 rfl) (by first | exact Tryz.underlying3 | exact Tryz.underlying22) (by rfl) (by decide) ?_)
        refine Plan.makeFn (cs := [.tmp 5]) (caps := [ptr ξ]) rfl rfl rfl (vals1 rfl) ?_
        refine Plan.callRG (key := 1000) (B := 0) (c := allC [rowEv (some ⟨g, 0, none⟩) n.length cap (evsC n), obj ξ e.enc]) rfl rfl rfl (index_fn ξ g cap n e hn hok heo) Tryz.func72 rfl rfl (fun _ _ => Nat.zero_le _) (by repeat (first | exact Opnds.nil | refine Opnds.cons rfl (by exact Sub.refl _) ?_)) rfl (Ent.pickC [0, 4] rfl rfl) (by decide) ?_
        repeat (refine Plan.assign rfl rfl rfl rfl ?_)
        exact Nrm.mid () trivial (by repeat (first | exact Weak.nil | refine Weak.cons rfl (Sub.refl _) ?_ | refine Weak.cons rfl (Sub.heap (Ent.pickC [0, 1, 2, 3] rfl rfl)) ?_))
      · have h0 : e.rr = 0 ∧ e.rn = 0 := by simpa using hd
        rw [hpk, if_pos h0]
        refine J.skip ?_
        exact Nrm.mid () trivial (by repeat (first | exact Weak.nil | refine Weak.cons rfl (Sub.refl _) ?_ | refine Weak.cons rfl (Sub.heap (Ent.pickC [0, 1, 2, 3] rfl rfl)) ?_))
    intro _ _
    by_cases hp : pk n i ∈ es.map (·.k)
    · obtain ⟨eo, heo1, hek⟩ := List.mem_map.1 hp
      obtain ⟨j, hj, hje⟩ := List.getElem_of_mem heo1
      have hj? : es[j]? = some eo := by rw [List.getElem?_eq_getElem hj, hje]
      have hrow : (es.map KE.row)[j]? = some eo.row := by rw [List.getElem?_map, hj?]; rfl
      have hxl : eo.xs.length ≤ i := by
        rw [hg.xs eo heo1]
        have := List.length_filter_le (fun j => decide (pk n j = eo.k)) (List.range i)
        rw [List.length_range] at this
        exact this
      refine J.regroup (key := 1000) [rowEv (some ⟨g, 0, none⟩) n.length cap (evsC n), cellB β (some ⟨g, 0, none⟩) n.length cap, mapC μ (kvsM es), eo.row, allC ((es.map KE.row).eraseIdx j)] rfl (Ent.sep (Ent.refl _) (Ent.sep (Ent.refl _) (Ent.sep (Ent.refl _) (Ent.lastOut hrow)))) ?_
      refine J.region mixed hI (by kernel_rfl) ?_
      repeat (refine Plan.move rfl rfl rfl rfl ?_)
      refine Plan.lookupC (key := 1000) (q := 2) (z := nilS) rfl rfl rfl rfl rfl Tryz.underlying124 Tryz.underlying3 (by kernel_rfl) rfl rfl (by decide) ?_
      have hm := mapAt_in hg.nd hj? nilS
      rw [hek] at hm
      rw [hm]
      repeat (refine Plan.move rfl rfl rfl rfl ?_)
      refine Plan.lit (B := 0) rfl rfl rfl eltI rfl (fun _ _ => Nat.zero_le _) rfl (fun v hv => by rw [List.mem_singleton.1 hv]; rfl) (by decide) ?_
      refine Plan.appendC (key := 1000) (q := 3) (B := eo.B) (m := eo.xs.length) (cap := eo.cap) (xs := intsL eo.xs) (news := intsL [i]) rfl rfl rfl rfl rfl Sub.own eltI (by intro _ e; cases e; decide) rfl hA rfl (fun u hu => by rw [List.mem_singleton.1 hu]; rfl) (by simp; omega) fun B' m' cap' hm' => ?_
      obtain ⟨e', he'⟩ : ∃ e' : KE, e' = ⟨pk n i, B', cap', eo.xs ++ [i]⟩ := ⟨_, rfl⟩
      obtain rfl : m' = (eo.xs ++ [i]).length := by simpa using hm'
      refine Plan.mapUpdateC (key := 1000) (q := 2) (v := e'.val) rfl rfl rfl rfl rfl rfl (by rw [he']; rfl) Tryz.underlying124 Tryz.underlying3 rfl hA rfl ?_
      have hpv := putV_in (e' := e') hg.nd hj? (by rw [he']; exact hek.symm)
      rw [hek] at hpv
      rw [hpv]
      have hEnt : Ent (allC [rowC 3 1 B' (eo.xs ++ [i]).length cap' (intsL eo.xs ++ intsL [i]), allC ((es.map KE.row).eraseIdx j)]) (allC [allC ((es.set j e').map KE.row)]) := by
        have h1 : rowC 3 1 B' (eo.xs ++ [i]).length cap' (intsL eo.xs ++ intsL [i]) = e'.row := by rw [he']; simp [KE.row, intsL]
        rw [h1, List.map_set]; exact Ent.lastIn (by simpa using hj)
      repeat (fail)
      refine J.region mixed hI (by kernel_rfl) ?_
      repeat (first | refine Plan.move rfl rfl rfl rfl ?_ | (refine Plan.ints rfl rfl rfl rfl rfl rfl ?_; (refine Plan.int (i64r (by omega)) ?_)))
      refine Plan.int (y := ((i + 1 : Nat) : Int)) (by omega) ?_
      repeat (fail)
      exact Nrm.next (i + 1, es.set j e') ⟨hlt, hg.more hj? hek (by rw [he']; exact hek.symm) (by rw [he'])⟩ (by dsimp only; omega) (by repeat (first | exact Weak.nil | refine Weak.cons rfl (Sub.refl _) ?_ | refine Weak.cons rfl (Sub.heap (Ent.sep (Ent.refl _) (Ent.sep (Ent.refl _) (Ent.sep (Ent.refl _) hEnt)))) ?_))
    · refine J.nilRow (key := 1000) 3 1 rfl ?_
      refine J.region mixed hI (by kernel_rfl) ?_
      repeat (refine Plan.move rfl rfl rfl rfl ?_)
      refine Plan.lookupC (key := 1000) (q := 2) (z := nilS) rfl rfl rfl rfl rfl Tryz.underlying124 Tryz.underlying3 (by kernel_rfl) rfl rfl (by decide) ?_
      rw [mapAt_out hp]
      repeat (refine Plan.move rfl rfl rfl rfl ?_)
      refine Plan.lit (B := 0) rfl rfl rfl eltI rfl (fun _ _ => Nat.zero_le _) rfl (fun v hv => by rw [List.mem_singleton.1 hv]; rfl) (by decide) ?_
      refine Plan.appendC (key := 1000) (q := 4) (B := none) (m := 0) (cap := 0) (xs := []) (news := intsL [i]) rfl rfl rfl rfl rfl Sub.own eltI (by intro _ e; cases e; decide) rfl hA rfl (fun u hu => by rw [List.mem_singleton.1 hu]; rfl) (by simp) fun B' m' cap' hm' => ?_
      obtain ⟨e', he'⟩ : ∃ e' : KE, e' = ⟨pk n i, B', cap', [i]⟩ := ⟨_, rfl⟩
      obtain rfl : m' = 1 := by simpa using hm'
      refine Plan.mapUpdateC (key := 1000) (q := 2) (v := e'.val) rfl rfl rfl rfl rfl rfl (by rw [he']; rfl) Tryz.underlying124 Tryz.underlying3 rfl hA rfl ?_
      have hpo : e'.k ∉ es.map (·.k) := by rw [he']; exact hp
      have hpv := putV_out hpo
      rw [show e'.k = pk n i by rw [he']] at hpv
      rw [hpv]
      have hEnt : Ent (allC [allC (es.map KE.row), rowC 3 1 B' 1 cap' ([] ++ intsL [i])]) (allC [allC ((es ++ [e']).map KE.row)]) := by
        have h1 : rowC 3 1 B' 1 cap' ([] ++ intsL [i]) = e'.row := by rw [he']; rfl
        rw [h1, List.map_append]; exact Ent.lastAdd
      repeat (fail)
      refine J.region mixed hI (by kernel_rfl) ?_
      repeat (first | refine Plan.move rfl rfl rfl rfl ?_ | (refine Plan.ints rfl rfl rfl rfl rfl rfl ?_; (refine Plan.int (i64r (by omega)) ?_)))
      refine Plan.int (y := ((i + 1 : Nat) : Int)) (by omega) ?_
      repeat (fail)
      exact Nrm.next (i + 1, es ++ [e']) ⟨hlt, hg.new (by rw [he']) hpo (by rw [he'])⟩ (by dsimp only; omega) (by repeat (first | exact Weak.nil | refine Weak.cons rfl (Sub.refl _) ?_ | refine Weak.cons rfl (Sub.heap (Ent.sep (Ent.refl _) (Ent.sep (Ent.refl _) (Ent.sep (Ent.refl _) hEnt)))) ?_))
  · have hie : i = n.length := by
      first | omega | (dsimp only at hc; omega)
    subst hie
    refine J.exit ?_
    refine J.seq (J.seq (J.region mixed hI (by kernel_rfl) ?_))
    repeat (refine Plan.move rfl rfl rfl rfl ?_)
    refine Plan.rangeC (key := 1000) (q := 2) rfl rfl rfl (by intro _ e; cases e; decide) rfl Tryz.underlying124 rfl hA rfl fun r => ?_
    repeat (fail)
    refine J.block (J.loop (kcE F w0 β μ r B cap n es) (fun _ => True) (fun seen => leftN es.length seen) [] trivial ?_ ?_)
    · unfold kcE
      rw [done_none]
      exact (by repeat (first | exact Weak.nil | refine Weak.cons rfl (Sub.refl _) ?_ | refine Weak.cons rfl (Sub.heap (Ent.pickC [0, 1, 2, 4, 3] rfl rfl)) ?_))
    intro seen _
    refine J.seq (J.region mixed hI (by kernel_rfl) ?_)
    refine Plan.nextC (key := 1000) (q := 2) (q2 := 3) rfl rfl rfl (by intro _ e; cases e; decide) rfl rfl hA rfl rfl (fun hall => ?_) (fun j p hj hs => ?_)
    · refine Plan.extractEx rfl rfl rfl rfl rfl ?_
      refine J.seq (J.condF rfl ?_)
      refine J.exit ?_
      refine J.seq (J.region mixed hI (by kernel_rfl) ?_)
      repeat (first | refine Plan.move rfl rfl rfl rfl ?_ | refine Plan.assign rfl rfl rfl rfl ?_)
      have hko : KidsOk n (doneE n es seen) := hg.kids fun j hj => hall j (by rw [kvs_len]; exact hj)
      rw [← done_kvs n es seen]
      exact J.ret (Nrm.retC1 (key := 1000) (μ, doneE n es seen) rfl rfl rfl hko (Sub.refl _) (Ent.pickC [0, 2, 4] rfl rfl))
    · obtain ⟨eo, hj?, rfl⟩ : ∃ eo, es[j]? = some eo ∧ (eo.k, eo.val) = p := by
        unfold kvsM at hj
        rw [List.getElem?_map] at hj
        cases hx : es[j]? with
        | none => rw [hx] at hj; cases hj
        | some eo => rw [hx] at hj; cases hj; exact ⟨eo, rfl, rfl⟩
      have hjl : j < es.length := (List.getElem?_eq_some_iff.1 hj?).1
      have heo := hg.xs eo (List.mem_of_getElem? hj?)
      have hes := hg.some eo (List.mem_of_getElem? hj?)
      refine Plan.extractEx rfl rfl rfl rfl rfl ?_
      refine J.seq (J.condT rfl ?_)
      refine J.skip ?_
      refine J.block ?_
      refine J.seq (J.region mixed hI (by kernel_rfl) ?_)
      refine Plan.entryC (key := 1000) (q := 2) (q2 := 3) (j := j) (p := (eo.k, eo.val)) rfl rfl rfl rfl rfl rfl rfl hj (by decide) ?_
      refine Plan.extractEx (v := eo.val) rfl rfl rfl rfl rfl ?_
      repeat (refine Plan.assign rfl rfl rfl rfl ?_)
      have hnd : eo.xs.Nodup := by rw [heo]; exact (grp_inc n n.length eo.k).imp fun h => Nat.ne_of_lt h
      have hxlt : ∀ i, i < eo.xs.length → eo.xs.getD i 0 < n.length := fun i hi => by
        have h1 : eo.xs.getD i 0 = eo.xs[i] := by rw [List.getD_eq_getElem?_getD, List.getElem?_eq_getElem hi]; rfl
        rw [h1]
        have h4 : ∀ x ∈ eo.xs, x < n.length := by rw [heo]; intro x hx; exact grp_lt hx
        exact h4 _ (List.getElem_mem hi)
      have hpos : 0 < eo.xs.length := List.length_pos_iff.2 hes
      have hnpos : 0 < n.length := by have := hxlt 0 hpos; omega
      have hxn : eo.xs.length ≤ n.length := by
        rw [heo]
        have := List.length_filter_le (fun j => decide (pk n j = eo.k)) (List.range n.length)
        rw [List.length_range] at this
        exact this
      have hinc : ∀ i l, i < l → l < eo.xs.length → eo.xs.getD i 0 < eo.xs.getD l 0 := fun i l h1 h2 => by
        have e1 : eo.xs.getD i 0 = eo.xs[i] := by rw [List.getD_eq_getElem?_getD, List.getElem?_eq_getElem (by omega)]; rfl
        have e2 : eo.xs.getD l 0 = eo.xs[l] := by rw [List.getD_eq_getElem?_getD, List.getElem?_eq_getElem h2]; rfl
        rw [e1, e2]
        have h3 : eo.xs.Pairwise (· < ·) := by rw [heo]; exact grp_inc n n.length eo.k
        exact List.pairwise_iff_getElem.1 h3 i l (by omega) h2 h1
      have hda : (doneE n es seen)[j]? = some eo := done_at hj? hs
      have hrow : ((doneE n es seen).map KE.row)[j]? = some eo.row := by rw [List.getElem?_map, hda]; rfl
      refine J.tellC (key := 1000) (q := 0) rfl rfl (row_at (by rw [evs_len]; omega)) ?_
      rintro ⟨g, rfl⟩
      refine J.regroup (key := 1000) [rowEv (some ⟨g, 0, none⟩) n.length cap (evsC n), cellB β (some ⟨g, 0, none⟩) n.length cap, mapC μ (kvsM es), iterC r μ (kvsM es).length (seen ++ [j]), eo.row, allC (((doneE n es seen).map KE.row).eraseIdx j)] rfl (Ent.sep (Ent.refl _) (Ent.sep (Ent.refl _) (Ent.sep (Ent.refl _) (Ent.sep (Ent.refl _) (Ent.lastOut hrow))))) ?_
      refine J.tellC (key := 1000) (q := 4) rfl rfl (row_at (B := eo.B) (m := eo.xs.length) (cap := eo.cap) (xs := intsL eo.xs) (by simpa using hpos)) ?_
      rintro ⟨g2, hg2⟩
      have hval : eo.val = slI g2 eo.xs.length eo.cap := by unfold KE.val; rw [hg2]
      have hrw : eo.row = rowI g2 eo.xs.length eo.cap (fun i => eo.xs.getD i 0) := by unfold KE.row; rw [hg2, intsL_F]
      rw [hval]
      refine J.regroup (key := 1000) [rowI g2 eo.xs.length eo.cap (fun i => eo.xs.getD i 0), nC β g cap n, mapC μ (kvsM es), iterC r μ (kvsM es).length (seen ++ [j]), allC (((doneE n es seen).map KE.row).eraseIdx j)] rfl (by
        rw [← hrw]
        exact (Ent.pickC (H' := [eo.row, cellB β (some ⟨g, 0, none⟩) n.length cap, rowEv (some ⟨g, 0, none⟩) n.length cap (evsC n), mapC μ (kvsM es), iterC r μ (kvsM es).length (seen ++ [j]), allC (((doneE n es seen).map KE.row).eraseIdx j)]) [4, 1, 0, 2, 3, 5] rfl rfl).trans (Ent.sep (Ent.refl _) Ent.group2)) ?_
      refine J.region mixed hI (by kernel_rfl) ?_
      repeat (refine Plan.move rfl rfl rfl rfl ?_)
      refine Plan.makeFn (cs := [.tmp 1]) (caps := [ptr β]) rfl rfl rfl (vals1 rfl) ?_
      refine Plan.callL (key := 1000) [0, 1] [2, 3, 4] rfl rfl rfl ((sortStable_fn (ahead_ord n) (cmpK β g cap n) g2 eo.xs.length eo.cap (fun i => eo.xs.getD i 0) (by omega) hxlt hinc)) Tryz.func100 rfl rfl (by intro _ e; cases e; decide) (by repeat (first | exact Opnds.nil | refine Opnds.cons rfl (by exact Sub.refl _) ?_)) rfl hA rfl rfl rfl ?_
      rintro h ⟨hm, hso⟩
      have hsd := sort_done hnd hm hso
      have hEnt : Ent (allC [rowI g2 eo.xs.length eo.cap h, allC (((doneE n es seen).map KE.row).eraseIdx j)]) (allC [allC ((doneE n es (seen ++ [j])).map KE.row)]) := by
        have h1 : rowI g2 eo.xs.length eo.cap h = ({ eo with xs := sortK n eo.xs } : KE).row := by
          unfold KE.row rowI
          dsimp only
          rw [hg2, intsF_L, hsd, sortK_len]
        rw [h1, ← done_more hj? hs, List.map_set]
        exact Ent.lastIn (by rw [List.length_map, done_len]; exact hjl)
      have hE : Ent (allC [rowI g2 eo.xs.length eo.cap h, nC β g cap n, mapC μ (kvsM es), iterC r μ (kvsM es).length (seen ++ [j]), allC (((doneE n es seen).map KE.row).eraseIdx j)])
          (allC [rowEv (some ⟨g, 0, none⟩) n.length cap (evsC n), cellB β (some ⟨g, 0, none⟩) n.length cap, mapC μ (kvsM es), iterC r μ (kvsM es).length (seen ++ [j]), allC ((doneE n es (seen ++ [j])).map KE.row)]) :=
        (Ent.sep (Ent.refl (rowI g2 eo.xs.length eo.cap h)) Ent.ungroup2).trans ((Ent.pickC (H := [rowI g2 eo.xs.length eo.cap h, cellB β (some ⟨g, 0, none⟩) n.length cap, rowEv (some ⟨g, 0, none⟩) n.length cap (evsC n), mapC μ (kvsM es), iterC r μ (kvsM es).length (seen ++ [j]), allC (((doneE n es seen).map KE.row).eraseIdx j)]) (H' := [rowEv (some ⟨g, 0, none⟩) n.length cap (evsC n), cellB β (some ⟨g, 0, none⟩) n.length cap, mapC μ (kvsM es), iterC r μ (kvsM es).length (seen ++ [j]), rowI g2 eo.xs.length eo.cap h, allC (((doneE n es seen).map KE.row).eraseIdx j)]) [2, 1, 3, 4, 0, 5] rfl rfl).trans
          (Ent.sep (Ent.refl _) (Ent.sep (Ent.refl _) (Ent.sep (Ent.refl _) (Ent.sep (Ent.refl _) hEnt)))))
      exact Nrm.next (seen ++ [j]) trivial (left_less hjl hs) (by repeat (first | exact Weak.nil | refine Weak.cons rfl (Sub.refl _) ?_ | refine Weak.cons rfl (Sub.heap (hE)) ?_))
end Go.Proofs.YtmljgobenlpnfaaGreat
end

section
namespace Go.Proofs.YtmljgobenlpnfaaGreat
open Go.Free Go.RowKit Go.Proofs Go.Free.Sorts
set_option maxHeartbeats 8000000
def pkey (p : Option Nat) : Int := match p with | none => -1 | some i => (i : Int)
theorem pk_key (n : List EvV) (j : Nat) : pk n j = pkey (parM n (n.getD j ev0)) := by unfold pk pkey; cases parM n (n.getD j ev0) <;> rfl
theorem pkey_inj {p q : Option Nat} (h : pkey p = pkey q) : p = q := by
  unfold pkey at h
  cases p <;> cases q <;> simp only at h
  · rfl
  · omega
  · omega
  · congr 1; omega
theorem grp_kids (n : List EvV) (p : Option Nat) : grp n n.length (pkey p) = kidsM n p := by
  unfold grp kidsM
  refine List.filter_congr fun j _ => ?_
  rw [pk_key]
  exact decide_eq_decide.2 ⟨pkey_inj, fun h => by rw [h]⟩
theorem kids_look {n : List EvV} {es : List KE} (h : KidsOk n es) (p : Option Nat) :
    (∃ (j : Nat) (e : KE), es[j]? = some e ∧ e.k = pkey p ∧ mapAt nilS (kvsM es) (pkey p) = e.val ∧ e.xs = sortK n (kidsM n p)) ∨ (mapAt nilS (kvsM es) (pkey p) = nilS ∧ kidsM n p = []) := by
  by_cases hp : pkey p ∈ es.map (·.k)
  · obtain ⟨e, he, hek⟩ := List.mem_map.1 hp
    obtain ⟨j, hj, hje⟩ := List.getElem_of_mem he
    have hj? : es[j]? = some e := by rw [List.getElem?_eq_getElem hj, hje]
    have hm := mapAt_in h.nd hj? nilS
    rw [hek] at hm
    have hx := h.xs e he
    rw [hek, grp_kids] at hx
    exact .inl ⟨j, e, hj?, hek, hm, hx⟩
  · refine .inr ⟨mapAt_out hp _, ?_⟩
    rw [← grp_kids]
    unfold grp
    rw [List.filter_eq_nil_iff]
    intro j hj
    simp only [decide_eq_true_eq]
    intro hc
    exact hp (hc ▸ h.all j (List.mem_range.1 hj))
abbrev evsOf (n : List EvV) (l : List Nat) : List EvV := l.map fun i => n.getD i ev0
abbrev fnW (a6 a7 a5 a8 : Nat) : Value := .func (.func 75) #[] [ptr a6, ptr a7, ptr a5, ptr a8].toArray
abbrev wH (a6 a7 a5 a8 μ : Nat) (B : Option Addr) (cap : Nat) (n : List EvV) (es : List KE) (out : List EvV) (O : Option Addr) (oc : Nat) : List Chunk :=
  [obj a6 [mapV μ], cellB a7 O out.length oc, cellB a5 B n.length cap, obj a8 [fnW a6 a7 a5 a8], mapC μ (kvsM es), rowEv B n.length cap (evsC n), rowEv O out.length oc (evsC out), allC (es.map KE.row)]
def wkE (F : Nat → Prop) (w0 : World) (a6 a7 a5 a8 μ : Nat) (B : Option Addr) (cap : Nat) (n : List EvV) (es : List KE) (v : Value) (m : Nat) (part : Nat → List EvV) (s : Nat × Option Addr × Nat) : Env :=
  [(1, .ex (ptr a6)), (2, .ex (ptr a7)), (3, .ex (ptr a5)), (4, .ex (ptr a8)), (10, .ex v), (11, .ex (vi m)), (12, .ex (vi s.1)), (1000, heap (fun b => F b ∨ w0.heap.size ≤ b) (wH a6 a7 a5 a8 μ B cap n es (part s.1) s.2.1 s.2.2))]
theorem und_step (n : List EvV) (k : Nat) (p : Option Nat) (out : List EvV) {j : Nat} (hj : j < (sortK n (kidsM n p)).length) :
    (out ++ evsOf n (((sortK n (kidsM n p)).take j).flatMap fun i => i :: undM n k (some i)) ++ [n.getD (sortK n (kidsM n p))[j] ev0]) ++ evsOf n (undM n k (some (sortK n (kidsM n p))[j])) = out ++ evsOf n (((sortK n (kidsM n p)).take (j + 1)).flatMap fun i => i :: undM n k (some i)) := by
  rw [List.take_succ_eq_append_getElem hj, List.flatMap_append]
  unfold evsOf
  simp only [List.map_append, List.flatMap_cons, List.flatMap_nil, List.append_nil, List.map_cons, List.append_assoc, List.cons_append, List.nil_append]
theorem und_part_len (n : List EvV) (k : Nat) (p : Option Nat) (j : Nat) : (((sortK n (kidsM n p)).take j).flatMap fun i => i :: undM n k (some i)).length ≤ (undM n (k + 1) p).length := by
  have h : undM n (k + 1) p = ((sortK n (kidsM n p)).take j).flatMap (fun i => i :: undM n k (some i)) ++ ((sortK n (kidsM n p)).drop j).flatMap (fun i => i :: undM n k (some i)) := by
    rw [← List.flatMap_append, List.take_append_drop]; rfl
  rw [h, List.length_append]; omega
theorem walk_fn (a6 a7 a5 a8 μ : Nat) (B : Option Addr) (cap : Nat) (n : List EvV) (hn : n.length ≤ 1000000) (es : List KE) (hk : KidsOk n es) : ∀ (k : Nat) (p : Option Nat) (out : List EvV) (O : Option Addr) (oc : Nat), mu n p < k → out.length + (undM n k p).length ≤ 1000000 →
    SpcC Tryz.prog 75 [.ex (vi (pkey p)), .ex (ptr a6), .ex (ptr a7), .ex (ptr a5), .ex (ptr a8)] (allC (wH a6 a7 a5 a8 μ B cap n es out O oc)) (fun _ : Option Addr × Nat => True) (fun _ => Fa.any)
      (fun x => allC (wH a6 a7 a5 a8 μ B cap n es (out ++ evsOf n (undM n k p)) x.1 x.2))
  | 0, _, _, _, _, h, _ => absurd h (Nat.not_lt_zero _)
  | k + 1, p, out, O, oc, hmu, hlen => by
    refine SpcC.intro Tryz.func75 rfl (Nat.le_of_ble_eq_true rfl) fun w0 F => ?_
    have hI := kept_below F w0
    have hA := Own.kept F w0
    refine J.open1 (key := 1000) rfl ?_
    obtain ⟨xs, hxs⟩ : ∃ xs, xs = sortK n (kidsM n p) := ⟨_, rfl⟩
    have hxm : ∀ i ∈ xs, i < n.length ∧ mu n (some i) < k := fun i hi => by
      rw [hxs, sortK_mem] at hi
      have := mu_kid hi
      exact ⟨(kids_mem.1 hi).1, by omega⟩
    obtain ⟨Bx, cx, hv, hrow⟩ : ∃ (Bx : Option Addr) (cx : Nat), mapAt nilS (kvsM es) (pkey p) = .slice Bx xs.length cx ∧ (0 < xs.length → ∃ (j : Nat) (e : KE), es[j]? = some e ∧ e.B = Bx ∧ e.cap = cx ∧ e.xs = xs) := by
      rcases kids_look hk p with ⟨j, e, h1, h2, h3, h4⟩ | ⟨h1, h2⟩
      · exact ⟨e.B, e.cap, by rw [h3, hxs, ← h4]; rfl, fun _ => ⟨j, e, h1, rfl, rfl, by rw [hxs, ← h4]⟩⟩
      · have h3 : xs = [] := by
          apply List.eq_nil_iff_forall_not_mem.2
          intro v hv
          rw [hxs, sortK_mem, h2] at hv
          cases hv
        subst h3
        exact ⟨none, 0, h1, fun h => by simp at h⟩
    have hxn : xs.length ≤ n.length := by
      rw [hxs, sortK_len]
      have := List.length_filter_le (fun i => decide (parM n (n.getD i ev0) = p)) (List.range n.length)
      rw [List.length_range] at this
      exact this
    obtain ⟨part, hpart⟩ : ∃ part : Nat → List EvV, part = fun j => out ++ evsOf n ((xs.take j).flatMap fun i => i :: undM n k (some i)) := ⟨_, rfl⟩
    have hp0 : part 0 = out := by rw [hpart]; simp
    have hpe : part xs.length = out ++ evsOf n (undM n (k + 1) p) := by rw [hpart]; dsimp only; rw [List.take_length, hxs]; rfl
    have hpl : ∀ j, (part j).length ≤ 1000000 := fun j => by
      rw [hpart, hxs]
      have := und_part_len n k p j
      simp only [List.length_append, List.length_map]; omega
    refine J.seq (J.region mixed hI (by kernel_rfl) ?_)
    refine Plan.loadC (key := 1000) (q := 0) rfl rfl rfl rfl rfl rfl (obj_reads1 rfl) Tryz.underlying124 rfl (by decide) ?_
    repeat (refine Plan.move rfl rfl rfl rfl ?_)
    refine Plan.lookupC (key := 1000) (q := 4) (z := nilS) rfl rfl rfl rfl rfl Tryz.underlying124 Tryz.underlying3 (by kernel_rfl) rfl rfl (by decide) ?_
    rw [hv]
    repeat (first | refine Plan.move rfl rfl rfl rfl ?_ | refine Plan.lenE rfl rfl rfl rfl (by first | exact Tryz.underlying22 | exact Tryz.underlying127) ?_)
    refine J.block (J.loop (wkE F w0 a6 a7 a5 a8 μ B cap n es (.slice Bx xs.length cx) xs.length part) (fun s => s.1 ≤ xs.length) (fun s => xs.length - s.1) (0, O, oc) (Nat.zero_le _) ?_ ?_)
    · unfold wkE
      dsimp only
      rw [hp0]
      repeat (first | exact Weak.nil | refine Weak.cons rfl (Sub.refl _) ?_)
    rintro ⟨j, O1, oc1⟩ hj
    simp only at hj
    refine J.seq (J.region mixed hI (by kernel_rfl) ?_)
    repeat ((refine Plan.ints rfl rfl rfl rfl rfl rfl ?_; (skip)))
    refine J.seq (J.condD rfl (fun hc => ?_) (fun hc => ?_))
    · have hlt : j < xs.length := by
        first | omega | (dsimp only at hc; omega)
      obtain ⟨l, e, hl, he1, he2, he3⟩ := hrow (by omega)
      obtain ⟨i, hi⟩ : ∃ i, i = xs[j] := ⟨_, rfl⟩
      obtain ⟨hin, him⟩ := hxm i (hi ▸ List.getElem_mem hlt)
      have hpj : part (j + 1) = (part j ++ [n.getD i ev0]) ++ evsOf n (undM n k (some i)) := by
        rw [hpart, hi]
        subst hxs
        exact (und_step n k p out hlt).symm
      have hlen2 := hpl (j + 1)
      rw [hpj, List.length_append, List.length_map] at hlen2
      have hrw : (es.map KE.row)[l]? = some e.row := by rw [List.getElem?_map, hl]; rfl
      have hel : e.row = rowC 3 1 Bx xs.length cx (intsL xs) := by unfold KE.row; rw [he1, he2, he3]
      have hll : l < (es.map KE.row).length := by
        have := (List.getElem?_eq_some_iff.1 hl).1
        simpa using this
      have hset : (es.map KE.row).set l e.row = es.map KE.row := by
        obtain ⟨h1, h2⟩ := List.getElem?_eq_some_iff.1 hrw
        rw [← h2, List.set_getElem_self]
      refine J.tellC (key := 1000) (q := 5) rfl rfl (row_at (by rw [evs_len]; omega)) ?_
      rintro ⟨g, rfl⟩
      refine J.regroup (key := 1000) [obj a6 [mapV μ], cellB a7 O1 (part j).length oc1, cellB a5 (some ⟨g, 0, none⟩) n.length cap, obj a8 [fnW a6 a7 a5 a8], mapC μ (kvsM es), rowEv (some ⟨g, 0, none⟩) n.length cap (evsC n), rowEv O1 (part j).length oc1 (evsC (part j)), rowC 3 1 Bx xs.length cx (intsL xs), allC ((es.map KE.row).eraseIdx l)] rfl (by
        rw [← hel]
        exact Ent.sep (Ent.refl _) (Ent.sep (Ent.refl _) (Ent.sep (Ent.refl _) (Ent.sep (Ent.refl _) (Ent.sep (Ent.refl _) (Ent.sep (Ent.refl _) (Ent.sep (Ent.refl _) (Ent.lastOut hrw)))))))) ?_
      refine J.tellC (key := 1000) (q := 7) rfl rfl (row_at (by simpa using (by omega : 0 < xs.length))) ?_
      rintro ⟨g2, rfl⟩
      refine J.skip ?_
      refine J.seq (J.block ?_)
      refine J.seq (J.region mixed hI (by kernel_rfl) ?_)
      repeat (fail)
      refine Plan.indexCI j rfl rfl rfl rfl rfl rfl eltI hlt ?_
      refine Plan.loadC (key := 1000) (q := 7) (v := vi i) rfl rfl rfl rfl rfl rfl (row_reads1 (by simp [hi, hlt])) Tryz.underlying3 (by rfl) (by decide) ?_
      repeat (refine Plan.assign rfl rfl rfl rfl ?_)
      refine J.regroup (key := 1000) (wH a6 a7 a5 a8 μ (some ⟨g, 0, none⟩) cap n es (part j) O1 oc1) rfl (by
        have h1 := Ent.lastIn (c := e.row) hll
        rw [hset, hel] at h1
        exact Ent.sep (Ent.refl _) (Ent.sep (Ent.refl _) (Ent.sep (Ent.refl _) (Ent.sep (Ent.refl _) (Ent.sep (Ent.refl _) (Ent.sep (Ent.refl _) (Ent.sep (Ent.refl _) h1))))))) ?_
      refine J.seq (J.region mixed hI (by kernel_rfl) ?_)
      repeat (first | refine Plan.move rfl rfl rfl rfl ?_ | refine Plan.loadC (key := 1000) (q := 1) rfl rfl rfl rfl rfl rfl (obj_reads1 rfl) (by first | exact Tryz.underlying3 | exact Tryz.underlying22) (by rfl) (by decide) ?_ | refine Plan.loadC (key := 1000) (q := 2) rfl rfl rfl rfl rfl rfl (obj_reads1 rfl) (by first | exact Tryz.underlying3 | exact Tryz.underlying22) (by rfl) (by decide) ?_)
      refine Plan.indexC (off := i * 26) rfl rfl rfl rfl rfl eltE hin (by omega) ?_
      refine Plan.loadAggC (key := 1000) (q := 5) (off := i * 26) (vs := (n.getD i ev0).enc) rfl rfl rfl rfl rfl rfl (row_reads (evs_atD n hin)) Tryz.underlying40 rfl (by rw [encE]; kernel_rfl) (by decide) ?_
      refine Plan.lit (B := 0) rfl rfl rfl eltE rfl (fun _ _ => Nat.zero_le _) rfl (by simp [Value.cells, EvV.enc]) (by decide) ?_
      refine Plan.appendC (key := 1000) (q := 6) (B := O1) (m := (part j).length) (cap := oc1) (xs := evsC (part j)) (news := (n.getD i ev0).enc) rfl rfl rfl rfl rfl Sub.own eltE (by intro _ e; cases e; decide) rfl hA rfl (encE_one _) (by rw [evs_len, encE]; have := hpl j; omega) fun B' m' cap' hm' => ?_
      obtain ⟨out', hout⟩ : ∃ out', out' = part j ++ [n.getD i ev0] := ⟨_, rfl⟩
      have ho1 : evsC (part j) ++ (n.getD i ev0).enc = evsC out' := by rw [hout, evs_app]; simp [evsC]
      have ho2 : out'.length = (part j).length + 1 := by rw [hout]; simp
      obtain rfl : m' = out'.length := by rw [evs_len, encE] at hm'; omega
      rw [ho1]
      refine Plan.storeC (key := 1000) (q := 1) (off := 0) rfl rfl rfl rfl rfl rfl (by simp [Value.cells, Value.oneCell']) (by rfl) rfl hA rfl (obj_pat (Nat.le_of_ble_eq_true rfl)) ?_
      repeat (fail)
      have hmain := walk_fn a6 a7 a5 a8 μ (some ⟨g, 0, none⟩) cap n hn es hk k (some i) out' B' cap' him (by rw [← hout] at hlen2; exact hlen2)
      refine J.region mixed hI (by kernel_rfl) ?_
      repeat (fail)
      refine Plan.loadC (key := 1000) (q := 3) rfl rfl rfl rfl rfl rfl (obj_reads1 rfl) Tryz.underlying126 rfl (by decide) ?_
      repeat (refine Plan.move rfl rfl rfl rfl ?_)
      refine Plan.callFG (key := 1000) (allC []) (caps := [ptr a6, ptr a7, ptr a5, ptr a8]) (fs := [.ex (vi (pkey (some i)))]) (fun x => [allC (wH a6 a7 a5 a8 μ (some ⟨g, 0, none⟩) cap n es (out' ++ evsOf n (undM n k (some i))) x.1 x.2)]) rfl rfl rfl rfl hmain Tryz.func75 rfl rfl (by intro _ e; cases e; decide) (Opnds.cons rfl (Sub.refl _) Opnds.nil) rfl hA (Ent.addEmp) (fun x => Ent.refl _) ?_
      rintro ⟨O2, oc2⟩ _
      repeat (fail)
      refine J.region mixed hI (by kernel_rfl) ?_
      repeat (first | refine Plan.move rfl rfl rfl rfl ?_ | (refine Plan.ints rfl rfl rfl rfl rfl rfl ?_; (refine Plan.int (i64r (by omega)) ?_)))
      refine Plan.int (y := ((j + 1 : Nat) : Int)) (by omega) ?_
      repeat (fail)
      exact Nrm.next (j + 1, O2, oc2) hlt (by dsimp only; omega) (by
        unfold wkE
        dsimp only
        rw [hpj, ← hout]
        exact (by repeat (first | exact Weak.nil | refine Weak.cons rfl (Sub.refl _) ?_ | refine Weak.cons rfl (Sub.heap (Ent.one)) ?_)))
    · have hje : j = xs.length := by
        first | omega | (dsimp only at hc; omega)
      subst hje
      refine J.exit ?_
      rw [← hpe]
      exact Nrm.retC0 (key := 1000) (O1, oc1) rfl rfl rfl trivial (by exact Ent.refl _) (.inl rfl)
end Go.Proofs.YtmljgobenlpnfaaGreat
end

section
namespace Go.Free
open Go.RowKit
theorem vals4 {E : Env} {x y z s : Operand} {u v p q : Value} (h1 : opF E x = some (.ex u)) (h2 : opF E y = some (.ex v)) (h3 : opF E z = some (.ex p)) (h4 : opF E s = some (.ex q)) : ∀ (a : Act) (w : World), (∀ t, t ∈ [x, y, z, s] → ∀ g, opF E t = some g → g.den w (a.eval t)) → [x, y, z, s].map a.eval = [u, v, p, q] := fun a w h => by
  have e1 := h x (by simp) _ h1
  have e2 := h y (by simp) _ h2
  have e3 := h z (by simp) _ h3
  have e4 := h s (by simp) _ h4
  simp only [Fa.den] at e1 e2 e3 e4
  simp [e1, e2, e3, e4]
end Go.Free
namespace Go.Proofs.YtmljgobenlpnfaaGreat
open Go.Free Go.RowKit Go.Proofs Go.Free.Sorts
set_option maxHeartbeats 8000000
theorem nodes_ok {key : List UInt8} {L : List EvV} (h : ∀ e ∈ L, e.okV) : ∀ e ∈ nodesM key L, e.okV := fun e he => h e (List.mem_filter.1 he).1
theorem order_fn (L : List EvV) (hl : L.length ≤ 1000000) (hok : ∀ e ∈ L, e.okV) (key : List UInt8) : Spc Tryz.prog 45 [row 26 (evsC L), .ex (str key)] fun B => own B 40 26 (evsC (orderM key L)) := by
  refine Spc.intro Tryz.func45 rfl (Nat.le_of_ble_eq_true rfl) fun w0 => ?_
  have hI := hIb w0
  have hA := Own.below w0
  obtain ⟨n, hn⟩ : ∃ n, n = nodesM key L := ⟨_, rfl⟩
  have hnl : n.length ≤ 1000000 := by rw [hn]; have := nodes_le key L; omega
  have hno : ∀ e ∈ n, e.okV := by rw [hn]; exact nodes_ok hok
  have hN : SpcR Tryz.prog 73 [row 26 (evsC L), .ex (str key)] emp fun B => own B 40 26 (evsC n) := fun w args F hd _ => by rw [hn]; exact nodes_fn L hl key w args hd
  refine J.heap0 1000 (newB w0) ?_
  refine J.seq (J.region mixed hI (by kernel_rfl) ?_)
  repeat (refine Plan.assign rfl rfl rfl rfl ?_)
  refine J.seq (J.region mixed hI (by kernel_rfl) ?_)
  repeat (refine Plan.move rfl rfl rfl rfl ?_)
  refine Plan.callRO (key := 1000) rfl rfl rfl hN (fun _ => rfl) Tryz.func73 rfl rfl (by intro _ e; cases e; decide) (by repeat (first | exact Opnds.nil | refine Opnds.cons rfl (by first | exact Sub.refl _ | exact Sub.old (fun _ h => h)) ?_)) rfl hA (Ent.refl _) fun B m cap hm => ?_
  obtain rfl : m = n.length := by rw [evs_len] at hm; omega
  refine Plan.allocC (key := 1000) (z := nilS) rfl rfl rfl (by intro _ e; cases e; decide) (by kernel_rfl) rfl hA fun β => ?_
  refine Plan.storeC (key := 1000) (q := 1) (off := 0) rfl rfl rfl rfl rfl rfl (by simp [Value.cells, Value.oneCell']) (by rfl) rfl hA rfl (obj_pat (Nat.le_of_ble_eq_true rfl)) ?_
  repeat (fail)
  refine J.seq (J.region mixed hI (by kernel_rfl) ?_)
  repeat (refine Plan.loadC (key := 1000) (q := 1) rfl rfl rfl rfl rfl rfl (obj_reads1 rfl) (by first | exact Tryz.underlying3 | exact Tryz.underlying22) (by rfl) (by decide) ?_)
  refine Plan.callC (key := 1000) (q := 0) rfl rfl rfl (kids_fn B cap n hnl hno) Tryz.func74 rfl rfl (by intro _ e; cases e; decide) (by repeat (first | exact Opnds.nil | refine Opnds.cons rfl (by exact Sub.refl _) ?_)) rfl hA rfl ?_
  rintro ⟨μ, es⟩ hk
  refine Plan.allocC (key := 1000) (z := .map none) rfl rfl rfl (by intro _ e; cases e; decide) (by kernel_rfl) rfl hA fun μc => ?_
  refine Plan.storeC (key := 1000) (q := 2) (off := 0) rfl rfl rfl rfl rfl rfl (by simp [Value.cells, Value.oneCell']) (by rfl) rfl hA rfl (obj_pat (Nat.le_of_ble_eq_true rfl)) ?_
  repeat (fail)
  refine J.seq (J.region mixed hI (by kernel_rfl) ?_)
  refine Plan.allocC (key := 1000) (z := nilS) rfl rfl rfl (by intro _ e; cases e; decide) (by kernel_rfl) rfl hA fun γ => ?_
  repeat (fail)
  refine J.seq (J.region mixed hI (by kernel_rfl) ?_)
  refine Plan.allocC (key := 1000) (z := .nilFunc) rfl rfl rfl (by intro _ e; cases e; decide) (by kernel_rfl) rfl hA fun δ => ?_
  repeat (fail)
  refine J.seq (J.region mixed hI (by kernel_rfl) ?_)
  refine Plan.makeFn (cs := [.tmp 6, .tmp 7, .tmp 5, .tmp 8]) (caps := [ptr μc, ptr γ, ptr β, ptr δ]) rfl rfl rfl (vals4 rfl rfl rfl rfl) ?_
  refine Plan.storeC (key := 1000) (q := 4) (off := 0) rfl rfl rfl rfl rfl rfl (by simp [Value.cells, Value.oneCell']) (by rfl) rfl hA rfl (obj_pat (Nat.le_of_ble_eq_true rfl)) ?_
  repeat (fail)
  have hw := walk_fn μc γ β δ μ B cap n hnl es hk (n.length + 1) none [] none 0 (by have := mu_le n none; omega) (by have := und_len n (n.length + 1) none; simp only [List.length_nil]; omega)
  refine J.nilRow (key := 1000) 40 26 rfl ?_
  refine J.seq (J.region mixed hI (by kernel_rfl) ?_)
  refine Plan.loadC (key := 1000) (q := 4) rfl rfl rfl rfl rfl rfl (obj_reads1 rfl) Tryz.underlying126 rfl (by decide) ?_
  repeat (fail)
  refine Plan.callFG (key := 1000) (allC []) (caps := [ptr μc, ptr γ, ptr β, ptr δ]) (fs := [.ex (vi (pkey none))]) (fun x => [allC (wH μc γ β δ μ B cap n es ([] ++ evsOf n (undM n (n.length + 1) none)) x.1 x.2)]) rfl rfl rfl rfl hw Tryz.func75 rfl rfl (by intro _ e; cases e; decide) (Opnds.cons rfl (Sub.refl _) Opnds.nil) rfl hA ?_ (fun x => Ent.refl _) ?_
  · exact ((Ent.joinC (H1 := [rowEv B n.length cap (evsC n), mapC μ (kvsM es), allC (es.map KE.row)])).trans (Ent.pickC [4, 5, 3, 6, 1, 0, 7, 2] rfl rfl)).trans Ent.addEmp
  rintro ⟨O2, oc2⟩ _
  repeat (fail)
  refine J.open1 (key := 1000) rfl ?_
  have he : [] ++ evsOf n (undM n (n.length + 1) none) = orderM key L := by rw [List.nil_append, hn]; rfl
  rw [he]
  refine J.seq (J.region mixed hI (by kernel_rfl) ?_)
  refine Plan.loadC (key := 1000) (q := 1) rfl rfl rfl rfl rfl rfl (obj_reads1 rfl) Tryz.underlying22 rfl (by decide) ?_
  repeat (refine Plan.assign rfl rfl rfl rfl ?_)
  exact J.ret (Nrm.retRow (key := 1000) (q := 6) rfl rfl rfl rfl)
end Go.Proofs.YtmljgobenlpnfaaGreat
end

section
namespace Go.Free
open Go.RowKit
theorem SpcC.ent2 {P : Program} {f : FuncId} {As : List Fa} {c d : Chunk} {X : Type} {ok : X → Prop} {R : X → Fa} {c' d' : X → Chunk} (h : SpcC P f As c ok R c') (he : Ent d c) (he' : ∀ x, Ent (c' x) (d' x)) : SpcC P f As d ok R d' := fun w args F hd hc => by
  obtain ⟨G, h1, h2⟩ := he w F hc
  refine (h w args G hd h1).mono ?_
  rintro e w' ⟨v, x, e1, e2, hK, hR, F', hF', hFb⟩
  obtain ⟨G', g1, g2⟩ := he' x w' F' hF'
  exact ⟨v, x, e1, e2, hK.mono fun b _ hb => h2 b hb, hR, G', g1, fun b hb => by
    rcases hFb b (g2 b hb) with h3 | h3
    · exact .inl (h2 b h3)
    · exact .inr h3⟩
theorem J.tellOld {P : Program} {n : Nat} {I : World → Prop} {c : Code} {Q : Exit → Act → World → Prop} {E : Env} {w0 : World} {A : Nat → Prop} {H : List Chunk} {q : Nat} {ch : Chunk} {p : Prop} (hk : look E 999 = some (.old w0 (heap A H))) (hq : H[q]? = some ch) (hp : ∀ F, ch.holds w0 F → p) (h : p → J P n I c Q E) : J P n I c Q E := fun a w h1 h2 h3 => by
  have h4 := h3 999 _ hk
  simp only [Fa.den] at h4
  obtain ⟨φ, hL, hA⟩ := h4
  exact h (hp _ (hL.holds q _ hq)) a w h1 h2 h3
theorem below_frz {w0 w : World} (h : Below w0.heap.size w0 w) : ∀ b, b < w0.heap.size → b < w.heap.size ∧ w.heap[b]? = w0.heap[b]? := fun b hb => ⟨Nat.lt_of_lt_of_le hb h.size, h.block b hb⟩
end Go.Free
namespace Go.Proofs.YtmljgobenlpnfaaGreat
open Go.Free Go.RowKit Go.Proofs Go.Free.Sorts
set_option maxHeartbeats 8000000
theorem item11_fn (ζ : Nat) (a b : EvV) (ha : a.okV) (h9 : a.kind = 9) (hb : b.okV) :
    SpcR Tryz.prog 50 [.ex (aggE b), .ex (ptr ζ)] (obj ζ a.enc) fun _ => .ex (.bool (decide (endsP b a))) := by
  refine SpcR.introOld Tryz.func50 rfl (Nat.le_of_ble_eq_true rfl) fun w0 => ?_
  have hI := hIb w0
  have hA := Own.below w0
  refine J.heap0 1001 (newB w0) ?_
  refine J.seq (J.region mixed hI (by kernel_rfl) ?_)
  refine Plan.boxC (key := 1001) rfl rfl rfl (by intro _ e; cases e; decide) rfl rfl hA fun α => ?_
  repeat (refine Plan.assign rfl rfl rfl rfl ?_)
  refine J.heapAgain 1000 (fun _ h => h) rfl ?_
  refine J.seq (J.region mixed hI (by kernel_rfl) ?_)
  repeat (fail)
  refine Plan.loadAggC (key := 1001) (q := 0) (vs := b.enc) rfl rfl rfl rfl rfl rfl obj_whole Tryz.underlying40 rfl (by rw [encE]; kernel_rfl) (by decide) ?_
  repeat (fail)
  refine Plan.loadAggC (key := 1000) (q := 0) (vs := a.enc) rfl rfl rfl rfl rfl rfl obj_whole Tryz.underlying40 rfl (by rw [encE]; kernel_rfl) (by decide) ?_
  refine Plan.call (B := w0.heap.size) rfl rfl rfl (ends_fn b a hb ha h9) Tryz.func28 rfl rfl (hBb w0) (by repeat (first | exact Opnds.nil | refine Opnds.cons rfl (by exact Sub.refl _) ?_)) ?_
  repeat (refine Plan.assign rfl rfl rfl rfl ?_)
  exact J.ret (Nrm.ret1 rfl (fun _ h => h) rfl fun B _ => Sub.refl _)
def endedB (L : List EvV) (a : EvV) : Bool := L.any fun b => decide (endsP b a)
theorem item1_fn (ξ : Nat) (L : List EvV) (hl : L.length ≤ 1000000) (hok : ∀ x ∈ L, x.okV) (v : Value) (c : Chunk) (hread : c.reads ξ 0 [v]) (hrow : ∀ w F, c.holds w F → rowH 26 (evsC L) w v) (a : EvV) (ha : a.okV) (h9 : a.kind = 9) :
    SpcR Tryz.prog 48 [.ex (aggE a), .ex (ptr ξ)] c fun _ => .ex (.bool (endedB L a)) := by
  refine SpcR.introOld Tryz.func48 rfl (Nat.le_of_ble_eq_true rfl) fun w0 => ?_
  have hI := hIb w0
  have hA := Own.below w0
  refine J.tellOld (q := 0) rfl rfl (fun F => hrow w0 F) fun hr => ?_
  refine J.heap0 1001 (newB w0) ?_
  refine J.seq (J.region mixed hI (by kernel_rfl) ?_)
  refine Plan.boxC (key := 1001) rfl rfl rfl (by intro _ e; cases e; decide) rfl rfl hA fun ζ => ?_
  repeat (refine Plan.assign rfl rfl rfl rfl ?_)
  refine J.heapAgain 1000 (fun _ h => h) rfl ?_
  refine J.seq (J.region mixed hI (by kernel_rfl) ?_)
  refine Plan.loadC (key := 1000) (q := 0) (v := v) rfl rfl rfl rfl rfl rfl hread Tryz.underlying22 rfl (by decide) ?_
  repeat (fail)
  refine Plan.makeFn (cs := [.tmp 2]) (caps := [ptr ζ]) rfl rfl rfl (vals1 rfl) ?_
  refine Plan.callRG (key := 1001) (B := 0) rfl rfl rfl (containsG_fn L hl 50 _ [ptr ζ] (fun b => decide (endsP b a)) (obj ζ a.enc) Tryz.func50 rfl rfl fun b hb => item11_fn ζ a b ha h9 (hok b hb)) Tryz.func49 rfl rfl (fun _ _ => Nat.zero_le _) (Opnds.cons rfl (Sub.known (fun _ h => h) hr) (Opnds.cons rfl (Sub.refl _) Opnds.nil)) rfl Ent.one (by decide) ?_
  repeat (refine Plan.assign rfl rfl rfl rfl ?_)
  exact J.ret (Nrm.ret1 rfl (fun _ h => h) rfl fun B _ => Sub.refl _)
def itemsM (key : List UInt8) (L : List EvV) : List EvV := keepE (endedB L) (orderM key L)
theorem order_node {key : List UInt8} {L : List EvV} : ∀ a ∈ orderM key L, a ∈ L ∧ a.kind = 9 ∧ a.key = key := fun a ha => by
  unfold orderM at ha
  obtain ⟨i, hi, rfl⟩ := List.mem_map.1 ha
  have hl := und_lt _ _ hi
  rw [getD_at hl]
  have hm := List.mem_filter.1 (List.getElem_mem hl)
  have h2 := of_decide_eq_true hm.2
  exact ⟨hm.1, h2⟩
theorem order_len (key : List UInt8) (L : List EvV) : (orderM key L).length ≤ L.length := by
  unfold orderM
  rw [List.length_map]
  have h1 := und_len (nodesM key L) ((nodesM key L).length + 1) none
  have h2 := nodes_le key L
  omega
theorem items_fn (L : List EvV) (hl : L.length ≤ 1000000) (hok : ∀ e ∈ L, e.okV) (key : List UInt8) : Spc Tryz.prog 18 [row 26 (evsC L), .ex (str key)] fun B => own B 40 26 (evsC (itemsM key L)) := by
  refine Spc.intro Tryz.func18 rfl (Nat.le_of_ble_eq_true rfl) fun w0 => ?_
  have hI := hIb w0
  have hA := Own.below w0
  have hN : SpcR Tryz.prog 45 [row 26 (evsC L), .ex (str key)] emp fun B => own B 40 26 (evsC (orderM key L)) := fun w args F hd _ => order_fn L hl hok key w args hd
  refine J.nameOld (t := 0) rfl fun v hv => ?_
  have hv' := hv
  obtain ⟨Av, mv, cv, rfl, _⟩ := hv'
  refine J.heap0 1000 (newB w0) ?_
  refine J.seq (J.region mixed hI (by kernel_rfl) ?_)
  refine Plan.boxC (key := 1000) rfl rfl rfl (by intro _ e; cases e; decide) rfl rfl hA fun ξ => ?_
  repeat (refine Plan.assign rfl rfl rfl rfl ?_)
  refine J.seq (J.region mixed hI (by kernel_rfl) ?_)
  repeat (first | refine Plan.move rfl rfl rfl rfl ?_ | refine Plan.loadC (key := 1000) (q := 0) rfl rfl rfl rfl rfl rfl (obj_reads1 rfl) (by first | exact Tryz.underlying3 | exact Tryz.underlying22) (by rfl) (by decide) ?_)
  refine Plan.callRO (key := 1000) rfl rfl rfl hN (fun _ => rfl) Tryz.func45 rfl rfl (by intro _ e; cases e; decide) (Opnds.cons rfl (Sub.known (fun _ h => h) hv) (Opnds.cons rfl (Sub.refl _) Opnds.nil)) rfl hA Ent.emp fun B m cap hm => ?_
  obtain rfl : m = (orderM key L).length := by rw [evs_len] at hm; omega
  repeat (fail)
  refine Plan.makeFn (cs := [.tmp 2]) (caps := [ptr ξ]) rfl rfl rfl (vals1 rfl) ?_
  have hitem : ∀ a ∈ orderM key L, SpcR Tryz.prog 48 [.ex (aggE a), .ex (ptr ξ)] (allC [obj ξ [.slice Av mv cv], frozenC w0 fun b => b < w0.heap.size]) fun _ => .ex (.bool (endedB L a)) := fun a ha =>
    item1_fn ξ L hl hok (.slice Av mv cv) (allC [obj ξ [.slice Av mv cv], frozenC w0 fun b => b < w0.heap.size]) (fun w F ⟨G1, _, _, _, h1, _⟩ => obj_reads1 rfl w G1 h1) (fun w F ⟨_, _, _, _, _, _, G2, _, _, h2, _⟩ => frozen_row hv (fun b hb => hb) w fun b hb => (h2.2 b hb).2) a (hok a (order_node a ha).1) (order_node a ha).2.1
  have hdel := (delG_fn B cap (orderM key L) (by have := order_len key L; omega) 48 _ [ptr ξ] (endedB L) _ Tryz.func48 rfl rfl hitem).ent2 (d := allC ([rowEv B (orderM key L).length cap (evsC (orderM key L)), obj ξ [.slice Av mv cv]] ++ [frozenC w0 fun b => b < w0.heap.size])) (d' := fun _ => allC ([rowEv B (itemsM key L).length cap (evsC (itemsM key L)), obj ξ [.slice Av mv cv]] ++ [frozenC w0 fun b => b < w0.heap.size])) (Ent.sep (Ent.refl _) Ent.addEmp) (fun _ => Ent.sep (Ent.refl _) Ent.one)
  refine Plan.callFz (key := 1000) [1, 0] [] rfl rfl rfl hdel Tryz.func44 rfl rfl (by intro _ e; cases e; decide) (by repeat (first | exact Opnds.nil | refine Opnds.cons rfl (by exact Sub.refl _) ?_)) rfl hA rfl rfl rfl (fun w h b hb => below_frz h b hb) (fun b hb hb2 => by simp only [newB] at hb; omega) ?_
  intro _ _
  repeat (refine Plan.assign rfl rfl rfl rfl ?_)
  exact J.ret (Nrm.retRow (key := 1000) (q := 0) rfl rfl rfl rfl)
end Go.Proofs.YtmljgobenlpnfaaGreat
end

section
namespace Go.Free
open Go.RowKit
theorem own_chunk {w : World} {B e sz : Nat} {cs : List Value} {v : Value} (h : ownH B e sz cs w v) : ∃ (A : Option Addr) (m cap : Nat), v = .slice A m cap ∧ m * sz = cs.length ∧ (rowC e sz A m cap cs).holds w (fun b => v.ownBlock = some b) ∧ ∀ b, v.ownBlock = some b → B ≤ b := by
  obtain ⟨_, m, hm⟩ := h
  have hsl : ∃ A cap, v = .slice A m cap := by
    rcases hm.2 with ⟨h1, hm0⟩ | ⟨g, cp, cur, h1, _⟩
    · exact ⟨_, _, by rw [h1, hm0]⟩
    · exact ⟨_, _, h1⟩
  obtain ⟨A, cap, rfl⟩ := hsl
  have hm0 : w.ownsRow 0 e sz (.slice A m cap) m cs := by
    refine ⟨hm.1, ?_⟩
    rcases hm.2 with h1 | ⟨g, cp, cur, hv, hb, r⟩
    · exact .inl h1
    · exact .inr ⟨g, cp, cur, hv, Nat.zero_le _, r⟩
  exact ⟨A, m, cap, rfl, hm.1.symm, ⟨hm0, fun _ => Iff.rfl⟩, fun b hb => (hm.lt b hb).1⟩
theorem Spc.toC {P : Program} {f : FuncId} {As : List Fa} {e sz : Nat} {cs : List Value} (h : Spc P f As fun B => Free.own B e sz cs) : SpcC P f As emp (fun x : Option Addr × Nat × Nat => x.2.1 * sz = cs.length) (fun x => .ex (.slice x.1 x.2.1 x.2.2)) (fun x => rowC e sz x.1 x.2.1 x.2.2 cs) := fun w args F hd _ => by
  refine (h w args hd).mono ?_
  rintro ev w' ⟨v, rfl, hB, hR⟩
  obtain ⟨A, m, cap, rfl, h1, h2, h3⟩ := own_chunk (hR w.heap.size (Nat.le_refl _))
  exact ⟨_, (A, m, cap), rfl, h1, .ofBelow hB, by simp [Fa.den], _, h2, fun b hb => .inr (h3 b hb)⟩
theorem Spc.toC2 {P : Program} {f : FuncId} {As : List Fa} {e sz : Nat} {cs : List Value} {u : Value} (h : Spc P f As fun B => .tup [Free.own B e sz cs, .ex u]) : SpcC P f As emp (fun x : Option Addr × Nat × Nat => x.2.1 * sz = cs.length) (fun x => .tup [.ex (.slice x.1 x.2.1 x.2.2), .ex u]) (fun x => rowC e sz x.1 x.2.1 x.2.2 cs) := fun w args F hd _ => by
  refine (h w args hd).mono ?_
  rintro ev w' ⟨v, rfl, hB, hR⟩
  have h0 := hR w.heap.size (Nat.le_refl _)
  simp only [Fa.den] at h0
  obtain ⟨vs, rfl, v1, r1, rfl, hv1, v2, r2, rfl, hv2, rfl⟩ := h0
  obtain ⟨A, m, cap, rfl, h1, h2, h3⟩ := own_chunk hv1
  refine ⟨_, (A, m, cap), rfl, h1, .ofBelow hB, ?_, _, h2, fun b hb => .inr (h3 b hb)⟩
  simp only [Fa.den]
  exact ⟨_, rfl, _, _, rfl, by simp [Fa.den], _, _, rfl, hv2, rfl⟩
theorem SpcR.toC {P : Program} {f : FuncId} {As : List Fa} {c : Chunk} {e sz : Nat} {cs : List Value} {R : Nat → Fa} (h : SpcR P f As c R) (hR : ∀ B, R B = Free.own B e sz cs) : SpcC P f As c (fun x : Option Addr × Nat × Nat => x.2.1 * sz = cs.length) (fun x => .ex (.slice x.1 x.2.1 x.2.2)) (fun x => sepC c (rowC e sz x.1 x.2.1 x.2.2 cs)) := fun w args F hd hc => by
  refine (h w args F hd hc).mono ?_
  rintro ev w' ⟨v, rfl, hB, hRR⟩
  have h0 := hRR w.heap.size (Nat.le_refl _)
  rw [hR] at h0
  obtain ⟨A, m, cap, rfl, h1, h2, h3⟩ := own_chunk h0
  refine ⟨_, (A, m, cap), rfl, h1, .ofBelow hB, by simp [Fa.den], fun b => F b ∨ (Value.slice A m cap).ownBlock = some b, ⟨F, _, fun b => Iff.rfl, fun b hb hb2 => ?_, c.loc w w' F hc (fun b hb => hB.block b (c.lt w F b hc hb)), h2⟩, fun b hb => ?_⟩
  · have := c.lt w F b hc hb
    have := h3 b hb2
    omega
  · rcases hb with hb | hb
    · exact .inl hb
    · exact .inr (h3 b hb)
end Go.Free
end

section
namespace Go.Proofs.YtmljgobenlpnfaaGreat
open Go.Free Go.RowKit Go.Proofs Go.Free.Sorts
set_option maxHeartbeats 16000000
theorem typ_fn (k : Int) : Spc Tryz.prog 69 [.ex (vi k)] fun _ => .ex (vi (typP k)) := by
  refine Spc.intro Tryz.func69 rfl (Nat.le_of_ble_eq_true rfl) fun w0 => ?_
  have hI := hIb w0
  have hA := Own.below w0
  repeat' (first | refine Plan.move rfl rfl rfl rfl ?_ | refine Plan.assign rfl rfl rfl rfl ?_ | (refine Plan.ints rfl rfl rfl rfl rfl rfl ?_; (skip)) | refine J.seq (J.region mixed hI (by kernel_rfl) ?_) | refine J.seq (J.seq (J.region mixed hI (by kernel_rfl) ?_)) | refine J.skip ?_ | refine J.block ?_ | refine J.condD rfl (fun _ => ?_) (fun _ => ?_))
  all_goals exact J.ret (Nrm.ret1 rfl (fun _ h => h) rfl fun B _ => Sub.of_eq (congrArg (fun x => Fa.ex (.int .i64 x)) (by unfold typP; (repeat' split) <;> omega)))
theorem dt_eqG {a b c d : Int} : ((a, b) : Int × Int) = (c, d) ↔ a = c ∧ b = d := by simp
theorem endsG_fn (b a : EvV) (hb : b.okV) (ha : a.okV) : Spc Tryz.prog 28 [.ex (aggE b), .ex (aggE a)] fun _ => .ex (.bool (decide (endsG b a))) := by
  refine Spc.intro Tryz.func28 rfl (Nat.le_of_ble_eq_true rfl) fun w0 => ?_
  have hI := hIb w0
  have hA := Own.below w0
  have h1 := hb.2.2.2.2.2.2.2.2.2
  have h2 : okD (a.r, a.n) := ⟨ha.1, ha.2.1⟩
  have h3 : okD (b.rr, b.rn) := h1
  refine J.heap0 1000 (newB w0) ?_
  repeat' (first | refine Plan.move rfl rfl rfl rfl ?_ | refine Plan.assign rfl rfl rfl rfl ?_ | refine Plan.skip rfl rfl ?_ | refine Plan.pick rfl rfl rfl rfl rfl ?_ | (refine Plan.ints rfl rfl rfl rfl rfl rfl ?_; (skip)) | refine Plan.un rfl rfl rfl rfl rfl ?_ | refine Plan.fieldC rfl rfl rfl rfl (by first | exact Tryz.underlying58 | exact Tryz.underlying40 | exact Tryz.underlying38) rfl (by kernel_rfl) (by first | exact (rfl : _ = 0) | exact (rfl : _ = 19) | exact (rfl : _ = 20) | exact (rfl : _ = 21) | exact (rfl : _ = 24)) ?_ | refine Plan.loadC (key := 1000) (q := 0) rfl rfl rfl rfl rfl rfl (obj_reads1 rfl) (by first | exact Tryz.underlying3 | exact Tryz.underlying9) (by rfl) (by decide) ?_ | refine Plan.loadC (key := 1000) (q := 1) rfl rfl rfl rfl rfl rfl (obj_reads1 rfl) (by first | exact Tryz.underlying3 | exact Tryz.underlying9) (by rfl) (by decide) ?_ | refine J.seq (J.region mixed hI (by kernel_rfl) ?_) | refine J.region mixed hI (by kernel_rfl) ?_ | refine J.seq (J.seq (J.region mixed hI (by kernel_rfl) ?_)) | refine J.condF rfl ?_ | refine J.condT rfl ?_ | refine J.skip ?_ | refine Plan.call (B := w0.heap.size) rfl rfl rfl (covers_fn b a) Tryz.func58 rfl rfl (hBb w0) (by repeat (first | exact Opnds.nil | refine Opnds.cons rfl (by exact Sub.refl _) ?_)) ?_ | refine Plan.call (B := w0.heap.size) rfl rfl rfl (adds_fn a.kind) Tryz.func31 rfl rfl (hBb w0) (by repeat (first | exact Opnds.nil | refine Opnds.cons rfl (by exact Sub.refl _) ?_)) ?_ | refine Plan.loadAggC (key := 1000) (q := 0) (vs := b.enc) rfl rfl rfl rfl rfl rfl (obj_reads rfl) Tryz.underlying40 rfl (by rw [encE]; kernel_rfl) (by decide) ?_ | refine Plan.loadAggC (key := 1000) (q := 1) (vs := a.enc) rfl rfl rfl rfl rfl rfl (obj_reads rfl) Tryz.underlying40 rfl (by rw [encE]; kernel_rfl) (by decide) ?_ | refine Plan.loadAggC (key := 1000) (q := 0) (vs := [vi b.rr, vi b.rn]) rfl rfl rfl rfl rfl rfl (obj_reads rfl) Tryz.underlying34 rfl (by kernel_rfl) (by decide) ?_ | refine Plan.loadAggC (key := 1000) (q := 1) (vs := [vi a.r, vi a.n]) rfl rfl rfl rfl rfl rfl (obj_reads rfl) Tryz.underlying34 rfl (by kernel_rfl) (by decide) ?_ | refine Plan.eqlDt (b.rr, b.rn) (a.r, a.n) rfl rfl rfl rfl rfl h3 h2 ?_ | refine J.block ?_ | refine Plan.boolv (y := false) (decide_eq_false (by omega)) ?_ | refine Plan.strs rfl rfl rfl rfl rfl rfl ?_ | refine Plan.boxC (key := 1000) rfl rfl rfl (by intro _ e; cases e; decide) rfl rfl hA fun _ => ?_ | refine J.condD rfl (fun _ => ?_) (fun _ => ?_) | refine J.condND rfl (fun _ => ?_) (fun _ => ?_) | refine Plan.splitD (fun _ => ?_) (fun _ => ?_) | refine Plan.splitE (fun _ => ?_) (fun _ => ?_) | refine Plan.splitN (fun _ => ?_) (fun _ => ?_))
  all_goals exact J.ret (Nrm.ret1 rfl (fun _ h => h) rfl fun B _ => Sub.of_eq (congrArg (fun b => Fa.ex (.bool b)) (by
    first
    | refine (decide_eq_true ?_).symm
    | refine (decide_eq_false ?_).symm
    | refine decide_eq_decide.2 ?_
    | refine beq_decide ?_
    | refine bne_decide ?_
    all_goals ((try simp only [endsG, wantP, dt_eqG] at *); first | omega | grind))))
theorem all1_fn (ζ : Nat) (a b : EvV) (ha : a.okV) (hb : b.okV) :
    SpcR Tryz.prog 94 [.ex (aggE b), .ex (ptr ζ)] (obj ζ a.enc) fun _ => .ex (.bool (decide (endsG b a))) := by
  refine SpcR.introOld Tryz.func94 rfl (Nat.le_of_ble_eq_true rfl) fun w0 => ?_
  have hI := hIb w0
  have hA := Own.below w0
  refine J.heap0 1001 (newB w0) ?_
  refine J.seq (J.region mixed hI (by kernel_rfl) ?_)
  refine Plan.boxC (key := 1001) rfl rfl rfl (by intro _ e; cases e; decide) rfl rfl hA fun α => ?_
  repeat (refine Plan.assign rfl rfl rfl rfl ?_)
  refine J.heapAgain 1000 (fun _ h => h) rfl ?_
  refine J.seq (J.region mixed hI (by kernel_rfl) ?_)
  repeat (fail)
  refine Plan.loadAggC (key := 1001) (q := 0) (vs := b.enc) rfl rfl rfl rfl rfl rfl obj_whole Tryz.underlying40 rfl (by rw [encE]; kernel_rfl) (by decide) ?_
  repeat (fail)
  refine Plan.loadAggC (key := 1000) (q := 0) (vs := a.enc) rfl rfl rfl rfl rfl rfl obj_whole Tryz.underlying40 rfl (by rw [encE]; kernel_rfl) (by decide) ?_
  refine Plan.call (B := w0.heap.size) rfl rfl rfl (endsG_fn b a hb ha) Tryz.func28 rfl rfl (hBb w0) (by repeat (first | exact Opnds.nil | refine Opnds.cons rfl (by exact Sub.refl _) ?_)) ?_
  repeat (refine Plan.assign rfl rfl rfl rfl ?_)
  exact J.ret (Nrm.ret1 rfl (fun _ h => h) rfl fun B _ => Sub.refl _)
def ordV (a b : EvV) : Int := if later a b = true then 1 else if later b a = true then -1 else 0
theorem ord_fn (a b : EvV) : Spc Tryz.prog 96 [.ex (aggE a), .ex (aggE b)] fun _ => .ex (vi (ordV a b)) := by
  refine Spc.intro Tryz.func96 rfl (Nat.le_of_ble_eq_true rfl) fun w0 => ?_
  have hI := hIb w0
  have hA := Own.below w0
  refine J.heap0 1000 (newB w0) ?_
  refine J.seq (J.region mixed hI (by kernel_rfl) ?_)
  refine Plan.boxC (key := 1000) rfl rfl rfl (by intro _ e; cases e; decide) rfl rfl hA fun α => ?_
  refine Plan.boxC (key := 1000) rfl rfl rfl (by intro _ e; cases e; decide) rfl rfl hA fun β => ?_
  repeat (refine Plan.assign rfl rfl rfl rfl ?_)
  refine J.seq (J.block ?_)
  refine J.seq (J.region mixed hI (by kernel_rfl) ?_)
  refine Plan.loadAggC (key := 1000) (q := 0) (vs := a.enc) rfl rfl rfl rfl rfl rfl obj_whole Tryz.underlying40 rfl (by rw [encE]; kernel_rfl) (by decide) ?_
  refine Plan.loadAggC (key := 1000) (q := 1) (vs := b.enc) rfl rfl rfl rfl rfl rfl obj_whole Tryz.underlying40 rfl (by rw [encE]; kernel_rfl) (by decide) ?_
  refine Plan.call (B := w0.heap.size) rfl rfl rfl (later_fn a b) Tryz.func99 rfl rfl (hBb w0) (by repeat (first | exact Opnds.nil | refine Opnds.cons rfl (by exact Sub.refl _) ?_)) ?_
  unfold ordV
  cases h1 : later a b with
  | true =>
    rw [if_pos rfl]
    repeat (refine Plan.assign rfl rfl rfl rfl ?_)
    refine J.condT rfl ?_
    refine J.seq (J.region mixed hI (by kernel_rfl) ?_)
    repeat (refine Plan.assign rfl rfl rfl rfl ?_)
    exact J.ret (Nrm.ret1 rfl (fun _ h => h) rfl fun B _ => Sub.refl _)
  | false =>
  rw [if_neg (by decide)]
  repeat (refine Plan.assign rfl rfl rfl rfl ?_)
  refine J.condF rfl ?_
  refine J.seq (J.region mixed hI (by kernel_rfl) ?_)
  refine Plan.loadAggC (key := 1000) (q := 1) (vs := b.enc) rfl rfl rfl rfl rfl rfl obj_whole Tryz.underlying40 rfl (by rw [encE]; kernel_rfl) (by decide) ?_
  refine Plan.loadAggC (key := 1000) (q := 0) (vs := a.enc) rfl rfl rfl rfl rfl rfl obj_whole Tryz.underlying40 rfl (by rw [encE]; kernel_rfl) (by decide) ?_
  refine Plan.call (B := w0.heap.size) rfl rfl rfl (later_fn b a) Tryz.func99 rfl rfl (hBb w0) (by repeat (first | exact Opnds.nil | refine Opnds.cons rfl (by exact Sub.refl _) ?_)) ?_
  cases h2 : later b a with
  | true =>
    rw [if_pos rfl]
    repeat (refine Plan.assign rfl rfl rfl rfl ?_)
    refine J.condT rfl ?_
    refine J.seq (J.region mixed hI (by kernel_rfl) ?_)
    repeat (refine Plan.assign rfl rfl rfl rfl ?_)
    exact J.ret (Nrm.ret1 rfl (fun _ h => h) rfl fun B _ => Sub.refl _)
  | false =>
  rw [if_neg (by decide)]
  repeat (refine Plan.assign rfl rfl rfl rfl ?_)
  refine J.condF rfl ?_
  refine J.skip ?_
  refine J.seq (J.region mixed hI (by kernel_rfl) ?_)
  repeat (refine Plan.assign rfl rfl rfl rfl ?_)
  exact J.ret (Nrm.ret1 rfl (fun _ h => h) rfl fun B _ => Sub.refl _)
/-! ### Sorted -/
def aheadX (es : List EvV) (i j : Nat) : Prop := ltE (es.getD i ev0) (es.getD j ev0) ∨ (¬ ltE (es.getD j ev0) (es.getD i ev0) ∧ i < j)
theorem aheadX_ord (es : List EvV) : Ord (aheadX es) := by
  refine ⟨fun {x y z} h1 h2 => ?_, fun x h => ?_, fun {x y} h => ?_⟩
  · unfold aheadX ltE at *; omega
  · unfold aheadX ltE at *; omega
  · unfold aheadX ltE; omega
theorem cmpX (es : List EvV) (N : Nat) : CmpX es 96 [] emp N (aheadX es) where
  fn := ⟨_, Tryz.func96, rfl, rfl⟩
  call x y _ _ := ⟨ordV (es.getD x ev0) (es.getD y ev0), fun w args F hd _ => by
      refine (ord_fn (es.getD x ev0) (es.getD y ev0) w args hd).mono ?_
      exact fun e w' h => h, fun hyx => by
      unfold ordV aheadX
      have h1 := @later_iff (es.getD y ev0) (es.getD x ev0)
      have h2 := @later_iff (es.getD x ev0) (es.getD y ev0)
      by_cases ha : ltE (es.getD y ev0) (es.getD x ev0)
      · rw [if_pos (h1.2 ha)]
        constructor
        · intro h; omega
        · rintro (h | h)
          · exact absurd (ltE_trans h ha) (ltE_irr _)
          · omega
      · rw [if_neg fun h => ha (h1.1 h)]
        by_cases hb : ltE (es.getD x ev0) (es.getD y ev0)
        · rw [if_pos (h2.2 hb)]
          exact ⟨fun _ => .inl hb, fun _ => by omega⟩
        · rw [if_neg fun h => hb (h2.1 h)]
          constructor
          · intro h; omega
          · rintro (h | h)
            · exact absurd h hb
            · omega⟩
theorem evF_id (es : List EvV) : evFX es (fun i => i) es.length = evsC es := by
  unfold evFX
  congr 1
  apply List.ext_getElem
  · simp
  · intro i h1 h2
    simp [List.getElem?_eq_getElem h2]
theorem sortX_done {es : List EvV} (hu : unlikeM es) {h : Nat → Nat} (hm : Mix 0 es.length (fun i => i) h) (hs : SortedF (aheadX es) 0 es.length h) : evFX es h es.length = evsC (sortE es) := by
  unfold evFX
  congr 1
  have hlt : ∀ i, i < es.length → h i < es.length := fun i hi => by
    obtain ⟨k, _, k2, e⟩ := hm.fro i (Nat.zero_le _) hi
    rw [e]; exact k2
  obtain ⟨ys, hys⟩ : ∃ ys, ys = (List.range es.length).map fun k => es.getD (h k) ev0 := ⟨_, rfl⟩
  rw [← hys]
  have hp : ys.Pairwise fun a b => ltE a b := by
    rw [hys, List.pairwise_map]
    have hr : (List.range es.length).Pairwise (fun i j => i < j ∧ i < es.length ∧ j < es.length) := by
      rw [List.pairwise_iff_getElem]
      intro i j hi hj hij
      simp only [List.getElem_range]
      exact ⟨hij, by simpa using hi, by simpa using hj⟩
    refine hr.imp fun {i j} ⟨h1, h2, h3⟩ => ?_
    have hh := hs i j (Nat.zero_le _) h1 h3
    have hi := hlt i h2
    have hj := hlt j h3
    unfold aheadX at hh
    rw [getD_at hi, getD_at hj] at hh ⊢
    rcases hh with hh | ⟨hh, hl⟩
    · exact hh
    · exact (ltE_tot (List.pairwise_iff_getElem.1 hu _ _ hi hj hl)).resolve_right hh
  have hmem : ∀ v, v ∈ ys ↔ v ∈ es := fun v => by
    rw [hys, List.mem_map]
    constructor
    · rintro ⟨i, hi, rfl⟩
      have := hlt i (List.mem_range.1 hi)
      rw [getD_at this]; exact List.getElem_mem this
    · intro hv
      obtain ⟨i, hi, rfl⟩ := List.getElem_of_mem hv
      obtain ⟨k, _, k2, e⟩ := hm.to i (Nat.zero_le _) hi
      exact ⟨k, List.mem_range.2 k2, by rw [← e, getD_at hi]⟩
  have h1 : ys.reverse.Pairwise fun a b => ltE b a := by rw [List.pairwise_reverse]; exact hp
  have h2 := late_one h1 (byLate_sorted hu) fun v => by rw [List.mem_reverse, byLate_mem, hmem v]
  unfold sortE
  rw [← h2, List.reverse_reverse]
theorem sortEv_fn (g cap : Nat) (es : List EvV) (hn : es.length ≤ 1000000) (hu : unlikeM es) :
    SpcC Tryz.prog 95 [.ex (slI g es.length cap), .ex (fnV 96 [])] (rowEv (some ⟨g, 0, none⟩) es.length cap (evsC es)) (fun _ : Unit => True) (fun _ => Fa.any) (fun _ => rowEv (some ⟨g, 0, none⟩) es.length cap (evsC (sortE es))) := fun w args F hd hc => by
  have h := sortStable_fnX es (aheadX_ord es) (cmpX es es.length) g es.length cap (fun i => i) hn (fun i hi => hi) (fun i j h _ => h)
  have he : rowX es g es.length cap (fun i => i) = rowEv (some ⟨g, 0, none⟩) es.length cap (evsC es) := by unfold rowX; rw [evF_id]
  rw [he] at h
  have h2 := h.ent2 (d := rowEv (some ⟨g, 0, none⟩) es.length cap (evsC es)) (d' := fun x => rowX es g es.length cap x) (Ent.addEmp.trans (Ent.sep (Ent.refl _) Ent.addEmp)) (fun x => Ent.left)
  refine (h2 w args F hd hc).mono ?_
  rintro e w' ⟨v, x, rfl, ⟨hm, hs⟩, hK, hR, F', hF', hFb⟩
  refine ⟨v, (), rfl, trivial, hK, hR, F', ?_, hFb⟩
  have : rowX es g es.length cap x = rowEv (some ⟨g, 0, none⟩) es.length cap (evsC (sortE es)) := by unfold rowX; rw [sortX_done hu hm hs]
  rw [← this]; exact hF'
end Go.Proofs.YtmljgobenlpnfaaGreat
end

section
namespace Go.Proofs.YtmljgobenlpnfaaGreat
open Go.Free Go.RowKit Go.Proofs Go.Free.Sorts
set_option maxHeartbeats 16000000
def nsE (w0 : World) (cmp : Value) : Env := [(0, .ex nilS), (1, .ex (vi 0)), (2, .ex (vi 0)), (3, .ex cmp), (8, .ex (vi 1))]
theorem insNil_fn (cmp : Value) : Spc Tryz.prog 117 [.ex nilS, .ex (vi 0), .ex (vi 0), .ex cmp] fun _ => Fa.any := by
  refine Spc.intro Tryz.func117 rfl (Nat.le_of_ble_eq_true rfl) fun w0 => ?_
  have hI := hIb w0
  refine J.seq (J.region mixed hI (by kernel_rfl) ?_)
  repeat (first | refine Plan.move rfl rfl rfl rfl ?_ | refine Plan.assign rfl rfl rfl rfl ?_ | (refine Plan.ints rfl rfl rfl rfl rfl rfl ?_; (refine Plan.int (i64r (by omega)) ?_)))
  refine J.block (J.loop (fun _ : Unit => nsE w0 cmp) (fun _ => True) (fun _ => 0) () trivial ?_ ?_)
  · repeat (first | exact Weak.nil | refine Weak.cons rfl (Sub.refl _) ?_)
  intro _ _
  refine J.seq (J.seq (J.region mixed hI (by kernel_rfl) ?_))
  repeat (first | refine Plan.move rfl rfl rfl rfl ?_ | (refine Plan.ints rfl rfl rfl rfl rfl rfl ?_; (skip)))
  refine Plan.boolv (y := false) (by decide) ?_
  refine J.condF rfl ?_
  refine J.exit ?_
  exact Nrm.ret0n rfl (fun _ h => h) (fun _ => rfl) (.inl rfl)
def ntE (w0 : World) (cmp : Value) : Env := [(0, .ex nilS), (1, .ex (vi 0)), (2, .ex cmp), (6, .ex (vi 20)), (7, .ex (vi 0)), (8, .ex (vi 20))]
theorem stableNil_fn (cmp : Value) : Spc Tryz.prog 111 [.ex nilS, .ex (vi 0), .ex cmp] fun _ => Fa.any := by
  refine Spc.intro Tryz.func111 rfl (Nat.le_of_ble_eq_true rfl) fun w0 => ?_
  have hI := hIb w0
  refine J.seq (J.region mixed hI (by kernel_rfl) ?_)
  repeat (refine Plan.assign rfl rfl rfl rfl ?_)
  refine J.seq (J.region mixed hI (by kernel_rfl) ?_)
  repeat (first | refine Plan.move rfl rfl rfl rfl ?_ | refine Plan.assign rfl rfl rfl rfl ?_)
  refine J.seq (J.block (J.loop (fun _ : Unit => ntE w0 cmp) (fun _ => True) (fun _ => 0) () trivial ?_ ?_))
  · repeat (first | exact Weak.nil | refine Weak.cons rfl (Sub.refl _) ?_)
  intro _ _
  refine J.seq (J.seq (J.region mixed hI (by kernel_rfl) ?_))
  repeat (first | refine Plan.move rfl rfl rfl rfl ?_ | (refine Plan.ints rfl rfl rfl rfl rfl rfl ?_; (skip)))
  refine Plan.boolv (y := false) (by decide) ?_
  refine J.condF rfl ?_
  refine J.exit ?_
  refine J.seq (J.region mixed hI (by kernel_rfl) ?_)
  repeat (refine Plan.move rfl rfl rfl rfl ?_)
  refine Plan.call (B := w0.heap.size) rfl rfl rfl (insNil_fn cmp) Tryz.func117 rfl rfl (hBb w0) (by repeat (first | exact Opnds.nil | refine Opnds.cons rfl (by exact Sub.refl _) ?_)) ?_
  repeat (fail)
  refine J.block (J.loop (fun _ : Unit => ntE w0 cmp) (fun _ => True) (fun _ => 0) () trivial ?_ ?_)
  · repeat (first | exact Weak.nil | refine Weak.cons rfl (Sub.refl _) ?_)
  intro _ _
  refine J.seq (J.seq (J.region mixed hI (by kernel_rfl) ?_))
  repeat (first | refine Plan.move rfl rfl rfl rfl ?_ | (refine Plan.ints rfl rfl rfl rfl rfl rfl ?_; (skip)))
  refine Plan.boolv (y := false) (by decide) ?_
  refine J.condF rfl ?_
  refine J.exit ?_
  exact Nrm.ret0n rfl (fun _ h => h) (fun _ => rfl) (.inl rfl)
theorem sortNil_fn (cmp : Value) : Spc Tryz.prog 95 [.ex nilS, .ex cmp] fun _ => Fa.any := by
  refine Spc.intro Tryz.func95 rfl (Nat.le_of_ble_eq_true rfl) fun w0 => ?_
  have hI := hIb w0
  refine J.region mixed hI (by kernel_rfl) ?_
  repeat (first | refine Plan.move rfl rfl rfl rfl ?_ | refine Plan.lenE rfl rfl rfl rfl (by first | exact Tryz.underlying56 | exact Tryz.underlying22) ?_)
  refine Plan.call (B := w0.heap.size) rfl rfl rfl (stableNil_fn cmp) Tryz.func111 rfl rfl (hBb w0) (by repeat (first | exact Opnds.nil | refine Opnds.cons rfl (by exact Sub.refl _) ?_)) ?_
  repeat (fail)
  exact Nrm.ret0n rfl (fun _ h => h) (fun _ => rfl) (.inl rfl)
def allI (L : List EvV) (i : Nat) : List EvV := (L.take i).filter fun a => decide (livesP L a)
theorem allI_succ {L : List EvV} {i : Nat} (hi : i < L.length) : allI L (i + 1) = if livesP L L[i] then allI L i ++ [L[i]] else allI L i := by
  unfold allI
  rw [List.take_succ_eq_append_getElem hi, List.filter_append]
  by_cases h : livesP L L[i]
  · rw [if_pos h, List.filter_cons_of_pos (by simpa using h)]; rfl
  · rw [if_neg h, List.filter_cons_of_neg (by simpa using h)]; simp
theorem allI_all (L : List EvV) : allI L L.length = allU L := by unfold allI allU; rw [List.take_length]
theorem allI_len (L : List EvV) (i : Nat) : (allI L i).length ≤ i := by
  unfold allI
  have := List.length_filter_le (fun a => decide (livesP L a)) (L.take i)
  rw [List.length_take] at this; omega
theorem lives_any (L : List EvV) (a : EvV) : (L.any fun b => decide (endsG b a)) = !decide (∀ b ∈ L, ¬ endsG b a) := by
  rw [Bool.eq_iff_iff, List.any_eq_true]
  simp
def lvA (w0 : World) (L : List EvV) (s : Nat × Option Addr × Nat) : Env :=
  [(0, old w0 (row 26 (evsC L))), (3, .ex (.slice s.2.1 (allI L s.1).length s.2.2)), (6, old w0 (row 26 (evsC L))), (7, .ex (vi L.length)), (8, .ex (vi s.1)), (1000, heap (newB w0) [rowEv s.2.1 (allI L s.1).length s.2.2 (evsC (allI L s.1))])]
theorem all_fn (L : List EvV) (hl : L.length ≤ 1000000) (hok : ∀ e ∈ L, e.okV) (hu : unlikeM L) : Spc Tryz.prog 68 [row 26 (evsC L)] fun B => own B 40 26 (evsC (sortE (allU L))) := by
  refine Spc.intro Tryz.func68 rfl (Nat.le_of_ble_eq_true rfl) fun w0 => ?_
  have hI := hIb w0
  have hA := Own.below w0
  refine J.heap0 1000 (newB w0) ?_
  refine J.nilRow (key := 1000) 40 26 rfl ?_
  refine J.seq (J.region mixed hI (by kernel_rfl) ?_)
  repeat (refine Plan.assign rfl rfl rfl rfl ?_)
  refine J.seq (J.region mixed hI (by kernel_rfl) ?_)
  repeat (refine Plan.assign rfl rfl rfl rfl ?_)
  refine J.seq (J.seq (J.region mixed hI (by kernel_rfl) ?_))
  repeat (refine Plan.move rfl rfl rfl rfl ?_)
  refine Plan.lenRow (m := L.length) rfl rfl rfl rfl (Sub.old fun _ h => h) Tryz.underlying22 (by rw [evs_len]) (by decide) ?_
  repeat (refine Plan.move rfl rfl rfl rfl ?_)
  refine J.block (J.loop (lvA w0 L) (fun s => s.1 ≤ L.length) (fun s => L.length - s.1) (0, none, 0) (Nat.zero_le _) ?_ ?_)
  · repeat (first | exact Weak.nil | refine Weak.cons rfl (Sub.refl _) ?_)
  rintro ⟨i, B, cap⟩ hi
  simp only at hi
  change J _ _ _ _ _ (lvA w0 L (i, B, cap))
  refine J.seq (J.region mixed hI (by kernel_rfl) ?_)
  repeat ((refine Plan.ints rfl rfl rfl rfl rfl rfl ?_; (skip)))
  refine J.seq (J.condD rfl (fun hc => ?_) (fun hc => ?_))
  · have hlt : i < L.length := by
      first | omega | (dsimp only at hc; omega)
    obtain ⟨e, he⟩ : ∃ e, e = L[i] := ⟨_, rfl⟩
    have hgd : L.getD i ev0 = e := by rw [he]; exact getD_at hlt
    have heL : e ∈ L := by rw [he]; exact List.getElem_mem hlt
    have heo := hok e heL
    have hst := allI_succ hlt
    rw [← he] at hst
    have hil := allI_len L i
    refine J.skip ?_
    refine J.seq (J.block ?_)
    refine J.seq (J.region mixed hI (by kernel_rfl) ?_)
    repeat (fail)
    refine Plan.indexAddr EvV.enc 26 L ev0 rfl rfl rfl rfl (Sub.old fun _ h => h) rfl eltE encE (by omega) (by omega) ?_
    rw [Int.toNat_natCast, hgd]
    refine Plan.loadAggP rfl rfl rfl rfl (Sub.refl _) Tryz.underlying40 rfl (by rw [encE]; kernel_rfl) ?_
    refine Plan.allocC (key := 1000) (z := .agg ev0.enc.toArray) rfl rfl rfl (by intro _ e; cases e; decide) (by kernel_rfl) rfl hA fun ξ => ?_
    refine Plan.storeC (key := 1000) (q := 1) (off := 0) rfl rfl rfl rfl rfl rfl (by simp [Value.cells, Value.oneCell', EvV.enc, str]) (by show _ = some e.enc.toArray.size; kernel_rfl) rfl hA rfl (obj_pat (Nat.le_of_ble_eq_true rfl)) ?_
    repeat (fail)
    refine J.regroup (key := 1000) [rowEv B (allI L i).length cap (evsC (allI L i)), obj ξ e.enc] rfl (Ent.refl _) ?_
    refine J.seq (J.region mixed hI (by kernel_rfl) ?_)
    repeat (first | refine Plan.fieldC rfl rfl rfl rfl (by first | exact Tryz.underlying58 | exact Tryz.underlying40 | exact Tryz.underlying38) rfl (by kernel_rfl) (by exact (rfl : _ = 19)) ?_ | refine Plan.loadC (key := 1000) (q := 1) rfl rfl rfl rfl rfl rfl (obj_reads1 rfl) (by exact Tryz.underlying3) (by rfl) (by decide) ?_)
    refine Plan.call (B := w0.heap.size) rfl rfl rfl (adds_fn e.kind) Tryz.func31 rfl rfl (hBb w0) (by repeat (first | exact Opnds.nil | refine Opnds.cons rfl (by exact Sub.refl _) ?_)) ?_
    by_cases had : addP e.kind
    case neg =>
      rw [decide_eq_false had]
      rw [if_neg (fun h => had h.1)] at hst
      repeat (first | refine Plan.move rfl rfl rfl rfl ?_ | refine Plan.skip rfl rfl ?_ | refine Plan.pick rfl rfl rfl rfl rfl ?_)
      refine J.condF rfl ?_
      refine J.skip ?_
      refine J.region mixed hI (by kernel_rfl) ?_
      repeat (first | refine Plan.move rfl rfl rfl rfl ?_ | (refine Plan.ints rfl rfl rfl rfl rfl rfl ?_; (refine Plan.int (i64r (by omega)) ?_)))
      refine Plan.int (y := ((i + 1 : Nat) : Int)) (by omega) ?_
      repeat (fail)
      exact Nrm.next (i + 1, B, cap) (by dsimp only; omega) (by dsimp only; omega) (by unfold lvA; dsimp only; rw [hst]; exact (by repeat (first | exact Weak.nil | refine Weak.cons rfl (Sub.refl _) ?_ | refine Weak.cons rfl (Sub.heap (Ent.pickC [0] rfl rfl)) ?_)))
    case pos =>
    rw [decide_eq_true had]
    repeat (refine Plan.move rfl rfl rfl rfl ?_)
    refine Plan.makeFn (cs := [.tmp 5]) (caps := [ptr ξ]) rfl rfl rfl (vals1 rfl) ?_
    refine Plan.callRG (key := 1000) (B := 0) rfl rfl rfl (containsG_fn L hl 94 _ [ptr ξ] (fun b => decide (endsG b e)) (obj ξ e.enc) Tryz.func94 rfl rfl fun b hb => all1_fn ξ e b heo (hok b hb)) Tryz.func49 rfl rfl (fun _ _ => Nat.zero_le _) (by repeat (first | exact Opnds.nil | refine Opnds.cons rfl (by first | exact Sub.refl _ | exact Sub.old (fun _ h => h)) ?_)) rfl (Ent.right.trans Ent.left) (by decide) ?_
    rw [lives_any]
    by_cases hlv : ∀ b ∈ L, ¬ endsG b e
    case neg =>
      rw [decide_eq_false hlv]
      rw [if_neg (fun h => hlv h.2)] at hst
      repeat (first | refine Plan.pick rfl rfl rfl rfl rfl ?_ | refine Plan.un rfl rfl rfl rfl rfl ?_)
      refine J.condF rfl ?_
      refine J.skip ?_
      refine J.region mixed hI (by kernel_rfl) ?_
      repeat (first | refine Plan.move rfl rfl rfl rfl ?_ | (refine Plan.ints rfl rfl rfl rfl rfl rfl ?_; (refine Plan.int (i64r (by omega)) ?_)))
      refine Plan.int (y := ((i + 1 : Nat) : Int)) (by omega) ?_
      repeat (fail)
      exact Nrm.next (i + 1, B, cap) (by dsimp only; omega) (by dsimp only; omega) (by unfold lvA; dsimp only; rw [hst]; exact (by repeat (first | exact Weak.nil | refine Weak.cons rfl (Sub.refl _) ?_ | refine Weak.cons rfl (Sub.heap (Ent.pickC [0] rfl rfl)) ?_)))
    case pos =>
    rw [decide_eq_true hlv]
    rw [if_pos ⟨had, hlv⟩] at hst
    repeat (first | refine Plan.pick rfl rfl rfl rfl rfl ?_ | refine Plan.un rfl rfl rfl rfl rfl ?_)
    refine J.condT rfl ?_
    refine J.region mixed hI (by kernel_rfl) ?_
    repeat (refine Plan.move rfl rfl rfl rfl ?_)
    refine Plan.loadAggC (key := 1000) (q := 1) (vs := e.enc) rfl rfl rfl rfl rfl rfl obj_whole Tryz.underlying40 rfl (by rw [encE]; kernel_rfl) (by decide) ?_
    refine Plan.lit (B := w0.heap.size) rfl rfl rfl eltE rfl (hBb w0) rfl (by simp [Value.cells, EvV.enc]) (by decide) ?_
    refine Plan.appendC (key := 1000) (q := 0) (news := evsC [e]) rfl rfl rfl rfl rfl (Sub.rowEq (by simp [evsC, flat, Value.cells]) Sub.own) eltE (by intro _ e; cases e; decide) rfl hA rfl (evs_one _) (by rw [evs_len, evs_len]; simp; omega) fun B' m' cap' hm' => ?_
    rw [← evs_app, ← hst]
    obtain rfl : m' = (allI L (i + 1)).length := by
      rw [evs_len, evs_len] at hm'
      rw [hst, List.length_append]
      simp only [List.length_cons, List.length_nil] at hm' ⊢
      omega
    repeat (refine Plan.assign rfl rfl rfl rfl ?_)
    refine J.region mixed hI (by kernel_rfl) ?_
    repeat (first | refine Plan.move rfl rfl rfl rfl ?_ | (refine Plan.ints rfl rfl rfl rfl rfl rfl ?_; (refine Plan.int (i64r (by omega)) ?_)))
    refine Plan.int (y := ((i + 1 : Nat) : Int)) (by omega) ?_
    repeat (fail)
    exact Nrm.next (i + 1, B', cap') (by dsimp only; omega) (by dsimp only; omega) (by repeat (first | exact Weak.nil | refine Weak.cons rfl (Sub.refl _) ?_ | refine Weak.cons rfl (Sub.heap (Ent.pickC [0] rfl rfl)) ?_))
  have hie : i = L.length := by
    first | omega | (dsimp only at hc; omega)
  subst hie
  refine J.exit ?_
  unfold lvA
  dsimp only
  rw [allI_all]
  have hal : (allU L).length ≤ L.length := List.length_filter_le _ _
  have hau : unlikeM (allU L) := unlike_filter hu _
  refine J.tellC (key := 1000) (q := 0) rfl rfl (fun w F h => row_room h) fun hrm => ?_
  cases B with
  | none =>
    have h0 : allU L = [] := List.eq_nil_of_length_eq_zero (hrm.2.2.2.1 rfl).1
    obtain rfl := (hrm.2.2.2.1 rfl).2
    have hs0 : sortE (allU L) = [] := by rw [h0]; exact List.eq_nil_of_length_eq_zero (by rw [sortE_len]; rfl)
    rw [hs0]
    rw [h0]
    refine J.seq (J.region mixed hI (by kernel_rfl) ?_)
    repeat (refine Plan.move rfl rfl rfl rfl ?_)
    refine Plan.call (B := w0.heap.size) rfl rfl rfl (sortNil_fn (fnV 96 [])) Tryz.func95 rfl rfl (hBb w0) (by repeat (first | exact Opnds.nil | refine Opnds.cons rfl (by exact Sub.refl _) ?_)) ?_
    repeat (fail)
    refine J.seq (J.region mixed hI (by kernel_rfl) ?_)
    repeat (first | refine Plan.move rfl rfl rfl rfl ?_ | refine Plan.assign rfl rfl rfl rfl ?_)
    exact J.ret (Nrm.retRow (key := 1000) (q := 0) rfl rfl rfl rfl)
  | some ad =>
    obtain ⟨g, rfl⟩ : ∃ g, ad = ⟨g, 0, none⟩ := ⟨ad.block, hrm.2.2.2.2 ad rfl⟩
    refine J.seq (J.region mixed hI (by kernel_rfl) ?_)
    repeat (refine Plan.move rfl rfl rfl rfl ?_)
    refine Plan.callC (key := 1000) (q := 0) rfl rfl rfl (sortEv_fn g cap (allU L) (by omega) hau) Tryz.func95 rfl rfl (by intro _ e; cases e; decide) (by repeat (first | exact Opnds.nil | refine Opnds.cons rfl (by exact Sub.refl _) ?_)) rfl hA rfl ?_
    intro _ _
    repeat (fail)
    refine J.seq (J.region mixed hI (by kernel_rfl) ?_)
    repeat (first | refine Plan.move rfl rfl rfl rfl ?_ | refine Plan.assign rfl rfl rfl rfl ?_)
    exact J.ret (Nrm.retRow (key := 1000) (q := 0) rfl rfl rfl rfl)
end Go.Proofs.YtmljgobenlpnfaaGreat
end

section
namespace Go.Proofs.YtmljgobenlpnfaaGreat
open Go.Free Go.RowKit Go.Proofs Go.Free.Sorts
set_option maxHeartbeats 16000000
theorem ownK_succ {key : List UInt8} {L : List EvV} {i : Nat} (hi : i < L.length) : ownK key (L.take (i + 1)) = if L[i].key = key then ownK key (L.take i) ++ [L[i]] else ownK key (L.take i) := by
  rw [List.take_succ_eq_append_getElem hi]
  unfold ownK
  rw [List.filter_append]
  by_cases hd : L[i].key = key
  · rw [if_pos hd, List.filter_cons_of_pos (by simp [hd])]; rfl
  · rw [if_neg hd, List.filter_cons_of_neg (by simp [hd])]; simp
theorem ownK_len (key : List UInt8) (L : List EvV) : (ownK key L).length ≤ L.length := List.length_filter_le _ _
def okA (w0 : World) (L : List EvV) (key : List UInt8) (s : Nat × Option Addr × Nat) : Env :=
  [(1, .ex (str key)), (6, .ex (.slice s.2.1 (ownK key (L.take s.1)).length s.2.2)), (9, old w0 (row 26 (evsC L))), (10, .ex (vi L.length)), (11, .ex (vi s.1)), (1000, heap (newB w0) [rowEv s.2.1 (ownK key (L.take s.1)).length s.2.2 (evsC (ownK key (L.take s.1)))])]
theorem typeV_nil {l : List EvV} (h : l.length = 0) : typeV l = 0 := by
  have : l = [] := List.eq_nil_of_length_eq_zero h
  rw [this]; rfl
theorem typeV_last {l : List EvV} (h : 0 < l.length) : typeV l = typP (l.getD (l.length - 1) ev0).kind := by
  unfold typeV
  rw [List.getLast?_eq_getElem?, List.getElem?_eq_getElem (by omega), getD_at (by omega)]
theorem of_fn (L : List EvV) (hl : L.length ≤ 1000000) (hok : ∀ e ∈ L, e.okV) (hu : unlikeM L) (key : List UInt8) : Spc Tryz.prog 41 [row 26 (evsC L), .ex (str key)] fun B => .tup [own B 40 26 (evsC (liveK L key)), .ex (vi (typeM L key))] := by
  refine Spc.intro Tryz.func41 rfl (Nat.le_of_ble_eq_true rfl) fun w0 => ?_
  have hI := hIb w0
  have hA := Own.below w0
  refine J.heap0 1000 (newB w0) ?_
  refine J.nilRow (key := 1000) 40 26 rfl ?_
  refine J.seq (J.region mixed hI (by kernel_rfl) ?_)
  repeat (refine Plan.assign rfl rfl rfl rfl ?_)
  refine J.seq (J.region mixed hI (by kernel_rfl) ?_)
  repeat (refine Plan.assign rfl rfl rfl rfl ?_)
  refine J.seq (J.seq (J.region mixed hI (by kernel_rfl) ?_))
  repeat (refine Plan.move rfl rfl rfl rfl ?_)
  refine Plan.lenRow (m := L.length) rfl rfl rfl rfl (Sub.old fun _ h => h) Tryz.underlying22 (by rw [evs_len]) (by decide) ?_
  repeat (refine Plan.move rfl rfl rfl rfl ?_)
  refine J.block (J.loop (okA w0 L key) (fun s => s.1 ≤ L.length) (fun s => L.length - s.1) (0, none, 0) (Nat.zero_le _) ?_ ?_)
  · repeat (first | exact Weak.nil | refine Weak.cons rfl (Sub.refl _) ?_)
  rintro ⟨i, B, cap⟩ hi
  simp only at hi
  change J _ _ _ _ _ (okA w0 L key (i, B, cap))
  refine J.seq (J.region mixed hI (by kernel_rfl) ?_)
  repeat ((refine Plan.ints rfl rfl rfl rfl rfl rfl ?_; (skip)))
  refine J.seq (J.condD rfl (fun hc => ?_) (fun hc => ?_))
  · have hlt : i < L.length := by
      first | omega | (dsimp only at hc; omega)
    have hno := ownK_succ (key := key) hlt
    obtain ⟨e, he⟩ : ∃ e, e = L[i] := ⟨_, rfl⟩
    have hgd : L.getD i ev0 = e := by rw [he]; exact getD_at hlt
    rw [← he] at hno
    have hnl : (ownK key (L.take i)).length ≤ 1000000 := by
      have := ownK_len key (L.take i)
      rw [List.length_take] at this; omega
    refine J.skip ?_
    refine J.seq (J.block ?_)
    refine J.seq (J.region mixed hI (by kernel_rfl) ?_)
    repeat (fail)
    refine Plan.indexAddr EvV.enc 26 L ev0 rfl rfl rfl rfl (Sub.old fun _ h => h) rfl eltE encE (by omega) (by omega) ?_
    rw [Int.toNat_natCast, hgd]
    refine Plan.loadAggP rfl rfl rfl rfl (Sub.refl _) Tryz.underlying40 rfl (by rw [encE]; kernel_rfl) ?_
    refine Plan.allocC (key := 1000) (z := .agg ev0.enc.toArray) rfl rfl rfl (by intro _ e; cases e; decide) (by kernel_rfl) rfl hA fun ξ => ?_
    refine Plan.storeC (key := 1000) (q := 1) (off := 0) rfl rfl rfl rfl rfl rfl (by simp [Value.cells, Value.oneCell', EvV.enc, str]) (by show _ = some e.enc.toArray.size; kernel_rfl) rfl hA rfl (obj_pat (Nat.le_of_ble_eq_true rfl)) ?_
    repeat (fail)
    refine J.regroup (key := 1000) [rowEv B (ownK key (L.take i)).length cap (evsC (ownK key (L.take i))), obj ξ e.enc] rfl (Ent.refl _) ?_
    refine J.seq (J.region mixed hI (by kernel_rfl) ?_)
    repeat (first | refine Plan.move rfl rfl rfl rfl ?_ | refine Plan.fieldC rfl rfl rfl rfl (by first | exact Tryz.underlying58 | exact Tryz.underlying40 | exact Tryz.underlying38) rfl (by kernel_rfl) (by first | exact (rfl : _ = 19) | exact (rfl : _ = 20)) ?_ | refine Plan.loadC (key := 1000) (q := 1) rfl rfl rfl rfl rfl rfl (obj_reads1 rfl) (by first | exact Tryz.underlying3 | exact Tryz.underlying9) (by rfl) (by decide) ?_)
    refine Plan.strs rfl rfl rfl rfl rfl rfl ?_
    by_cases hk : e.key = key
    case neg =>
      rw [if_neg hk] at hno
      refine Plan.boolv (y := false) (by simp [hk]) ?_
      refine J.condF rfl ?_
      refine J.skip ?_
      refine J.region mixed hI (by kernel_rfl) ?_
      repeat (first | refine Plan.move rfl rfl rfl rfl ?_ | (refine Plan.ints rfl rfl rfl rfl rfl rfl ?_; (refine Plan.int (i64r (by omega)) ?_)))
      refine Plan.int (y := ((i + 1 : Nat) : Int)) (by omega) ?_
      repeat (fail)
      exact Nrm.next (i + 1, B, cap) (by dsimp only; omega) (by dsimp only; omega) (by unfold okA; dsimp only; rw [hno]; exact (by repeat (first | exact Weak.nil | refine Weak.cons rfl (Sub.refl _) ?_ | refine Weak.cons rfl (Sub.heap (Ent.pickC [0] rfl rfl)) ?_)))
    case pos =>
    rw [if_pos hk] at hno
    refine Plan.boolv (y := true) (by simp [hk]) ?_
    refine J.condT rfl ?_
    refine J.region mixed hI (by kernel_rfl) ?_
    repeat (refine Plan.move rfl rfl rfl rfl ?_)
    refine Plan.loadAggC (key := 1000) (q := 1) (vs := e.enc) rfl rfl rfl rfl rfl rfl obj_whole Tryz.underlying40 rfl (by rw [encE]; kernel_rfl) (by decide) ?_
    refine Plan.lit (B := w0.heap.size) rfl rfl rfl eltE rfl (hBb w0) rfl (by simp [Value.cells, EvV.enc]) (by decide) ?_
    refine Plan.appendC (key := 1000) (q := 0) (news := evsC [e]) rfl rfl rfl rfl rfl (Sub.rowEq (by simp [evsC, flat, Value.cells]) Sub.own) eltE (by intro _ e; cases e; decide) rfl hA rfl (evs_one _) (by rw [evs_len, evs_len]; simp; omega) fun B' m' cap' hm' => ?_
    rw [← evs_app, ← hno]
    obtain rfl : m' = (ownK key (L.take (i + 1))).length := by
      rw [evs_len, evs_len] at hm'
      rw [hno, List.length_append]
      simp only [List.length_cons, List.length_nil] at hm' ⊢
      omega
    repeat (refine Plan.assign rfl rfl rfl rfl ?_)
    refine J.region mixed hI (by kernel_rfl) ?_
    repeat (first | refine Plan.move rfl rfl rfl rfl ?_ | (refine Plan.ints rfl rfl rfl rfl rfl rfl ?_; (refine Plan.int (i64r (by omega)) ?_)))
    refine Plan.int (y := ((i + 1 : Nat) : Int)) (by omega) ?_
    repeat (fail)
    exact Nrm.next (i + 1, B', cap') (by dsimp only; omega) (by dsimp only; omega) (by repeat (first | exact Weak.nil | refine Weak.cons rfl (Sub.refl _) ?_ | refine Weak.cons rfl (Sub.heap (Ent.pickC [0] rfl rfl)) ?_))
  have hie : i = L.length := by
    first | omega | (dsimp only at hc; omega)
  subst hie
  refine J.exit ?_
  unfold okA
  dsimp only
  rw [List.take_length]
  have hol := ownK_len key L
  have hoo : ∀ e ∈ ownK key L, e.okV := fun e he => hok e (List.mem_filter.1 he).1
  have c1 := all_fn (ownK key L) (by omega) hoo (unlike_filter hu _)
  obtain ⟨xs, hxs⟩ : ∃ xs, xs = liveK L key := ⟨_, rfl⟩
  have hxe : sortE (allU (ownK key L)) = xs := by rw [hxs]; rfl
  rw [hxe] at c1
  have hty : typeM L key = typeV xs := by rw [hxs]; rfl
  have hxl : xs.length ≤ 1000000 := by
    rw [hxs]
    unfold liveK
    rw [sortE_len]
    have : (allU (ownK key L)).length ≤ (ownK key L).length := List.length_filter_le _ _
    omega
  rw [hty, ← hxs]
  refine J.seq (J.region mixed hI (by kernel_rfl) ?_)
  repeat (refine Plan.move rfl rfl rfl rfl ?_)
  refine Plan.seeC (t := 25) (key := 1000) (q := 0) (xs := evsC (ownK key L)) (by kernel_rfl) hI rfl rfl rfl (fun w F hh => row_rowH hh) ?_
  refine Plan.call (B := w0.heap.size) rfl rfl rfl (c1) Tryz.func68 rfl rfl (hBb w0) (by repeat (first | exact Opnds.nil | refine Opnds.cons rfl (by exact Sub.refl _) ?_)) ?_
  repeat (refine Plan.assign rfl rfl rfl rfl ?_)
  refine J.seq (J.seq (J.region mixed hI (by kernel_rfl) ?_))
  repeat (refine Plan.move rfl rfl rfl rfl ?_)
  refine Plan.lenRow (m := xs.length) rfl rfl rfl rfl Sub.own Tryz.underlying22 (by rw [evs_len]) (by decide) ?_
  repeat ((refine Plan.ints rfl rfl rfl rfl rfl rfl ?_; (skip)))
  refine J.condE rfl (fun h0 => ?_) (fun h0 => ?_)
  · have hx0 : xs = [] := List.eq_nil_of_length_eq_zero (by omega)
    rw [typeV_nil (by omega), hx0]
    refine J.seq (J.region mixed hI (by kernel_rfl) ?_)
    repeat (refine Plan.assign rfl rfl rfl rfl ?_)
    exact J.ret (Nrm.ret2 rfl (fun _ h => h) fun B hB => ⟨_, rfl, Ress.cons rfl (by exact Sub.nilOwn (fun _ h => Nat.le_trans hB h.size)) (Ress.cons rfl (by exact Sub.refl _) Ress.nil)⟩)
  have hpos : 0 < xs.length := by omega
  rw [typeV_last hpos]
  refine J.skip ?_
  refine J.seq (J.region mixed hI (by kernel_rfl) ?_)
  repeat (refine Plan.move rfl rfl rfl rfl ?_)
  refine Plan.lenRow (m := xs.length) rfl rfl rfl rfl Sub.own Tryz.underlying22 (by rw [evs_len]) (by decide) ?_
  repeat ((refine Plan.ints rfl rfl rfl rfl rfl rfl ?_; (refine Plan.int (i64r (by omega)) ?_)))
  refine Plan.int (y := ((xs.length - 1 : Nat) : Int)) (by omega) ?_
  refine Plan.indexAddr EvV.enc 26 xs ev0 rfl rfl rfl rfl Sub.own rfl eltE encE (by omega) (by omega) ?_
  rw [Int.toNat_natCast]
  refine Plan.fieldPtr (us := (xs.getD (xs.length - 1) ev0).op) rfl rfl rfl rfl (Sub.refl _) Tryz.underlying40 rfl (by kernel_rfl) rfl ?_
  refine Plan.fieldPtr (us := [vi (xs.getD (xs.length - 1) ev0).kind]) rfl rfl rfl rfl (Sub.refl _) Tryz.underlying38 rfl (by kernel_rfl) rfl ?_
  refine Plan.load rfl rfl rfl rfl (Sub.refl _) Tryz.underlying3 rfl ?_
  refine Plan.call (B := w0.heap.size) rfl rfl rfl (typ_fn (xs.getD (xs.length - 1) ev0).kind) Tryz.func69 rfl rfl (hBb w0) (by repeat (first | exact Opnds.nil | refine Opnds.cons rfl (by exact Sub.refl _) ?_)) ?_
  repeat (refine Plan.assign rfl rfl rfl rfl ?_)
  exact J.ret (Nrm.ret2 rfl (fun _ h => h) fun B hB => ⟨_, rfl, Ress.cons rfl (by exact Sub.ownLower hB) (Ress.cons rfl (by exact Sub.refl _) Ress.nil)⟩)
theorem type_fn (L : List EvV) (hl : L.length ≤ 1000000) (hok : ∀ e ∈ L, e.okV) (hu : unlikeM L) (key : List UInt8) : Spc Tryz.prog 16 [row 26 (evsC L), .ex (str key)] fun _ => .ex (vi (typeM L key)) := by
  refine Spc.intro Tryz.func16 rfl (Nat.le_of_ble_eq_true rfl) fun w0 => ?_
  have hI := hIb w0
  refine J.seq (J.region mixed hI (by kernel_rfl) ?_)
  repeat (refine Plan.assign rfl rfl rfl rfl ?_)
  refine J.seq (J.region mixed hI (by kernel_rfl) ?_)
  repeat (refine Plan.move rfl rfl rfl rfl ?_)
  refine Plan.call (B := w0.heap.size) rfl rfl rfl (of_fn L hl hok hu key) Tryz.func41 rfl rfl (hBb w0) (by repeat (first | exact Opnds.nil | refine Opnds.cons rfl (by first | exact Sub.refl _ | exact Sub.old (fun _ h => h)) ?_)) ?_
  repeat (first | refine Plan.move rfl rfl rfl rfl ?_ | refine Plan.assign rfl rfl rfl rfl ?_ | refine Plan.extract rfl rfl rfl rfl rfl ?_)
  refine J.seq (J.region mixed hI (by kernel_rfl) ?_)
  repeat (first | refine Plan.move rfl rfl rfl rfl ?_ | refine Plan.assign rfl rfl rfl rfl ?_)
  exact J.ret (Nrm.ret1 rfl (fun _ h => h) rfl fun B _ => Sub.refl _)
theorem of1_fn (τ : Nat) (t : Int) (e : EvV) : SpcR Tryz.prog 97 [.ex (aggE e), .ex (ptr τ)] (obj τ [vi t]) fun _ => .ex (.bool (!decide (typP e.kind = t))) := by
  refine SpcR.introOld Tryz.func97 rfl (Nat.le_of_ble_eq_true rfl) fun w0 => ?_
  have hI := hIb w0
  have hA := Own.below w0
  refine J.heap0 1001 (newB w0) ?_
  refine J.seq (J.region mixed hI (by kernel_rfl) ?_)
  refine Plan.boxC (key := 1001) rfl rfl rfl (by intro _ e; cases e; decide) rfl rfl hA fun α => ?_
  repeat (refine Plan.assign rfl rfl rfl rfl ?_)
  refine J.heapAgain 1000 (fun _ h => h) rfl ?_
  refine J.seq (J.region mixed hI (by kernel_rfl) ?_)
  repeat (refine Plan.fieldC rfl rfl rfl rfl (by first | exact Tryz.underlying58 | exact Tryz.underlying40 | exact Tryz.underlying38) rfl (by kernel_rfl) (by exact (rfl : _ = 19)) ?_)
  refine Plan.loadC (key := 1001) (q := 0) rfl rfl rfl rfl rfl rfl (obj_reads1 rfl) Tryz.underlying3 rfl (by decide) ?_
  refine Plan.call (B := w0.heap.size) rfl rfl rfl (typ_fn e.kind) Tryz.func69 rfl rfl (hBb w0) (by repeat (first | exact Opnds.nil | refine Opnds.cons rfl (by exact Sub.refl _) ?_)) ?_
  repeat (first | refine Plan.assign rfl rfl rfl rfl ?_ | (refine Plan.ints rfl rfl rfl rfl rfl rfl ?_; (skip)) | refine Plan.loadC (key := 1000) (q := 0) rfl rfl rfl rfl rfl rfl (obj_reads1 rfl) (by exact Tryz.underlying3) (by rfl) (by decide) ?_)
  refine Plan.boolv (y := !decide (typP e.kind = t)) (by rfl) ?_
  repeat (fail)
  exact J.ret (Nrm.ret1 rfl (fun _ h => h) rfl fun B _ => Sub.refl _)
theorem Of_fn (L : List EvV) (hl : L.length ≤ 1000000) (hok : ∀ e ∈ L, e.okV) (hu : unlikeM L) (key : List UInt8) : Spc Tryz.prog 70 [row 26 (evsC L), .ex (str key)] fun B => own B 40 26 (evsC (ofM L key)) := by
  refine Spc.intro Tryz.func70 rfl (Nat.le_of_ble_eq_true rfl) fun w0 => ?_
  have hI := hIb w0
  have hA := Own.below w0
  have hin : ∀ e ∈ liveK L key, e.okV := fun e he => by
    unfold liveK at he
    rw [sortE_mem, all_own] at he
    exact hok e he.1
  have hxl : (liveK L key).length ≤ 1000000 := by
    unfold liveK
    rw [sortE_len]
    have : (allU (ownK key L)).length ≤ (ownK key L).length := List.length_filter_le _ _
    have := ownK_len key L
    omega
  refine J.heap0 1000 (newB w0) ?_
  refine J.seq (J.region mixed hI (by kernel_rfl) ?_)
  repeat (refine Plan.assign rfl rfl rfl rfl ?_)
  refine J.seq (J.region mixed hI (by kernel_rfl) ?_)
  repeat (refine Plan.move rfl rfl rfl rfl ?_)
  refine Plan.callN (key := 1000) rfl rfl rfl ((of_fn L hl hok hu key).toC2) Tryz.func41 rfl rfl (by intro _ e; cases e; decide) (by repeat (first | exact Opnds.nil | refine Opnds.cons rfl (by first | exact Sub.refl _ | exact Sub.old (fun _ h => h)) ?_)) rfl hA ?_
  rintro ⟨B, m, cap⟩ hm
  obtain rfl : m = (liveK L key).length := by dsimp only at hm; rw [evs_len] at hm; omega
  dsimp only
  repeat (first | refine Plan.move rfl rfl rfl rfl ?_ | refine Plan.extract rfl rfl rfl rfl rfl ?_)
  refine Plan.allocC (key := 1000) (z := vi 0) rfl rfl rfl (by intro _ e; cases e; decide) (by kernel_rfl) rfl hA fun τ => ?_
  repeat (refine Plan.assign rfl rfl rfl rfl ?_)
  refine Plan.storeC (key := 1000) (q := 1) (off := 0) rfl rfl rfl rfl rfl rfl (by simp [Value.cells, Value.oneCell']) (by kernel_rfl) rfl hA rfl (obj_pat (Nat.le_of_ble_eq_true rfl)) ?_
  repeat (fail)
  refine J.regroup (key := 1000) [rowEv B (liveK L key).length cap (evsC (liveK L key)), obj τ [vi (typeM L key)]] rfl (Ent.refl _) ?_
  refine J.seq (J.region mixed hI (by kernel_rfl) ?_)
  repeat (refine Plan.move rfl rfl rfl rfl ?_)
  refine Plan.makeFn (cs := [.tmp 6]) (caps := [ptr τ]) rfl rfl rfl (vals1 rfl) ?_
  have hdel := delG_fn B cap (liveK L key) hxl 97 _ [ptr τ] (fun e => !decide (typP e.kind = typeM L key)) (obj τ [vi (typeM L key)]) Tryz.func97 rfl rfl (fun e he => of1_fn τ (typeM L key) e)
  have hke : keepE (fun e => !decide (typP e.kind = typeM L key)) (liveK L key) = ofM L key := by
    unfold keepE ofM
    exact List.filter_congr fun e _ => by simp
  rw [hke] at hdel
  refine Plan.callL (key := 1000) [0, 1] [] rfl rfl rfl ((hdel)) Tryz.func44 rfl rfl (by intro _ e; cases e; decide) (by repeat (first | exact Opnds.nil | refine Opnds.cons rfl (by exact Sub.refl _) ?_)) rfl hA rfl rfl rfl ?_
  intro _ _
  repeat (refine Plan.assign rfl rfl rfl rfl ?_)
  exact J.ret (Nrm.retRow (key := 1000) (q := 0) rfl rfl rfl rfl)
end Go.Proofs.YtmljgobenlpnfaaGreat
end
