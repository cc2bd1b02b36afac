/-
  Bags of int: Drop.
-/
import Derived.Test.YtkhcjedlopiicaaBagDropI
import Derived.Test.YtkhcjedlopiicaaFreePick
import Derived.Test.YtkhcjedlopiicaaBagPlain
set_option linter.unusedSimpArgs false
set_option linter.unusedVariables false
set_option maxRecDepth 20000
namespace Go.Proofs.Ytkhcjedlopiicaa
open Go.Free Go.RowKit Go.Proofs
set_option maxHeartbeats 4000000

abbrev fnVI (a b : Nat) : Value := .func (.func 49) #[] #[ptr a, ptr b]
def ixEI (l : List (Dt × Int)) (a b : Nat) (v : Nat → Int) (wh : Value) (B : Option Addr) (cap : Nat) (i : Nat) : Env :=
  [(0, row 3 (l.flatMap itI)), (1, .ex (fnVI a b)), (7, .ex (vi l.length)), (8, .ex (vi i)), (1000, heap (fun _ => True) [rowII B l.length cap (l.flatMap itI), obj a (vList v), obj b [wh]])]
theorem indexF_fnI (B : Option Addr) (cap a b : Nat) (l : List (Dt × Int)) (hl : l.length ≤ 1000000) (v : Nat → Int) (wh : Value) (p : Int → Bool) (hw : WhOkI wh p) :
    SpcR Try.prog 75 [.ex (.slice B l.length cap), .ex (fnVI a b)] (allC [rowII B l.length cap (l.flatMap itI), obj a (vList v), obj b [wh]]) fun _ => .ex (vi (idxD (goesI v p) l)) := by
  refine SpcR.intro Try.func75 rfl (Nat.le_of_ble_eq_true rfl) fun w0 => ?_
  have hI := hIb w0
  refine J.open1 (key := 1000) rfl ?_
  repeat (first | refine Plan.move rfl rfl rfl rfl ?_ | refine Plan.assign rfl rfl rfl rfl ?_ | refine J.seq (J.region mixed hI (by kernel_rfl) ?_) | refine J.seq (J.seq (J.region mixed hI (by kernel_rfl) ?_)))
  refine Plan.lenE rfl rfl rfl rfl Try.underlying31 ?_
  repeat (refine Plan.move rfl rfl rfl rfl ?_)
  refine J.seeC (t := 0) (key := 1000) (q := 0) rfl rfl rfl (fun w F h => row_rowH h) ?_
  refine J.block (J.loop (ixEI l a b v wh B cap) (fun i => i ≤ l.length ∧ ∀ k x, l[k]? = some x → k < i → goesI v p x = false) (fun i => l.length - i) 0 ⟨Nat.zero_le _, fun k x _ h => by omega⟩ ?_ ?_)
  · repeat (first | exact Weak.nil | refine Weak.cons rfl (Sub.refl _) ?_)
  rintro i ⟨hil, hno⟩
  repeat (first | (refine Plan.ints rfl rfl rfl rfl rfl rfl ?_; (skip)) | refine J.seq (J.region mixed hI (by kernel_rfl) ?_))
  refine J.seq (J.condD rfl (fun hc => ?_) (fun hc => ?_))
  · have hlt : i < l.length := by omega
    have hx : l[i]? = some l[i] := List.getElem?_eq_getElem hlt
    have hgd : l.getD i it0I = l[i] := by rw [List.getD_eq_getElem?_getD, hx]; rfl
    repeat (refine J.skip ?_)
    refine J.seq (J.block ?_)
    repeat (first | refine Plan.move rfl rfl rfl rfl ?_ | refine Plan.assign rfl rfl rfl rfl ?_ | refine J.seq (J.region mixed hI (by kernel_rfl) ?_))
    refine Plan.indexAddr itI 3 l it0I rfl rfl rfl rfl (Sub.refl _) rfl eltItI itLI (by omega) (by omega) ?_
    rw [Int.toNat_natCast, hgd]
    refine Plan.loadAggP rfl rfl rfl rfl (Sub.refl _) Try.underlying33 rfl (by rw [itLI]; kernel_rfl) ?_
    refine Plan.callFR (key := 1000) (B := 0) (fs := [.ex (.agg (itI l[i]).toArray)]) (caps := [ptr a, ptr b]) rfl rfl rfl rfl (drop1_fnI a b v wh p hw l[i]) Try.func49 rfl rfl (fun _ _ => Nat.zero_le _) (Opnds.cons rfl (Sub.refl _) Opnds.nil) rfl (Ent.right.trans (Ent.sep (Ent.refl _) Ent.one)) (by decide) ?_
    repeat (fail)
    refine J.cond rfl (fun hg => ?_) (fun hg => ?_)
    · rw [idx_found hno hx hg]
      repeat (first | refine Plan.move rfl rfl rfl rfl ?_ | refine Plan.assign rfl rfl rfl rfl ?_ | refine J.seq (J.region mixed hI (by kernel_rfl) ?_))
      exact J.ret (Nrm.ret1 rfl (fun _ h => h) rfl fun B _ => Sub.refl _)
    · repeat (first | refine Plan.move rfl rfl rfl rfl ?_ | (refine Plan.ints rfl rfl rfl rfl rfl rfl ?_; (refine Plan.int (i64r (by omega)) ?_)) | refine J.region mixed hI (by kernel_rfl) ?_ | refine J.skip ?_)
      refine Plan.int (y := ((i + 1 : Nat) : Int)) (by omega) ?_
      repeat (fail)
      refine Nrm.next (i + 1) ⟨by omega, fun k x hk hki => ?_⟩ (by omega) (by repeat (first | exact Weak.nil | refine Weak.cons rfl (Sub.refl _) ?_))
      rcases Nat.lt_or_ge k i with h1 | h1
      · exact hno k x hk h1
      · have : k = i := by omega
        subst this; rw [hx] at hk; cases hk; exact hg
  refine J.exit ?_
  rw [idx_none fun k x hk => hno k x hk (by have := (List.getElem?_eq_some_iff.1 hk).1; omega)]
  repeat (first | refine Plan.assign rfl rfl rfl rfl ?_ | refine J.seq (J.region mixed hI (by kernel_rfl) ?_))
  exact J.ret (Nrm.ret1 rfl (fun _ h => h) rfl fun B _ => Sub.refl _)
def keepI (v : Nat → Int) (p : Int → Bool) (l : List (Dt × Int)) : List (Dt × Int) := l.filter fun x => !goesI v p x
def dlFI (w0 : World) (F : Nat → Prop) (l : List (Dt × Int)) (g cap a b : Nat) (v : Nat → Int) (wh : Value) (p : Int → Bool) (rest : List Value) (j i : Nat) (junk : List Value) : Env :=
  [(0, .ex (.slice (some ⟨g, 0, none⟩) l.length cap)), (1, .ex (fnVI a b)), (5, .ex (vi i)), (6, .ex (vi j)),
   (1000, heap (fun b => F b ∨ w0.heap.size ≤ b) [blk g 33 ((keepI v p (l.take j)).flatMap itI ++ (junk ++ ((l.drop j).flatMap itI ++ rest))), obj a (vList v), obj b [wh]])]
def dlEI (w0 : World) (F : Nat → Prop) (l : List (Dt × Int)) (g cap a b : Nat) (v : Nat → Int) (wh : Value) (p : Int → Bool) (rest : List Value) (s : Nat × Nat × List Value) : Env := dlFI w0 F l g cap a b v wh p rest s.1 s.2.1 s.2.2
theorem delF_fnI (B : Option Addr) (cap a b : Nat) (l : List (Dt × Int)) (hl : l.length ≤ 1000000) (v : Nat → Int) (wh : Value) (p : Int → Bool) (hw : WhOkI wh p) :
    SpcC Try.prog 48 [.ex (.slice B l.length cap), .ex (fnVI a b)] (allC [rowII B l.length cap (l.flatMap itI), obj a (vList v), obj b [wh]])
      (fun _ : Unit => True) (fun _ => .ex (.slice B (keepI v p l).length cap)) (fun _ => allC [rowII B (keepI v p l).length cap ((keepI v p l).flatMap itI)]) := by
  refine SpcC.intro Try.func48 rfl (Nat.le_of_ble_eq_true rfl) fun w0 F => ?_
  have hI := kept_below F w0
  have hA := Own.kept F w0
  refine J.open1 (key := 1000) rfl ?_
  refine J.factC (key := 1000) (q := 0) rfl rfl (fun w F h => row_room h) fun hrm => ?_
  repeat (first | refine Plan.move rfl rfl rfl rfl ?_ | refine Plan.assign rfl rfl rfl rfl ?_ | refine J.seq (J.region mixed hI (by kernel_rfl) ?_))
  refine Plan.callRG (key := 1000) (B := 0) rfl rfl rfl (indexF_fnI B cap a b l hl v wh p hw) Try.func75 rfl rfl (fun _ _ => Nat.zero_le _) (by repeat (first | exact Opnds.nil | refine Opnds.cons rfl (by exact Sub.refl _) ?_)) rfl (Ent.refl _) (by decide) ?_
  repeat (first | refine Plan.move rfl rfl rfl rfl ?_ | refine Plan.assign rfl rfl rfl rfl ?_ | (refine Plan.ints rfl rfl rfl rfl rfl rfl ?_; (skip)) | refine J.seq (J.seq (J.region mixed hI (by kernel_rfl) ?_)))
  refine J.condE rfl (fun hc => ?_) (fun hc => ?_)
  · have hk : keepI v p l = l := by
      unfold keepI
      exact List.filter_eq_self.2 fun x hx => by rw [idx_no hc x hx]; rfl
    rw [hk]
    repeat (first | refine Plan.move rfl rfl rfl rfl ?_ | refine Plan.assign rfl rfl rfl rfl ?_ | refine J.seq (J.region mixed hI (by kernel_rfl) ?_))
    exact J.ret (Nrm.retC1 (key := 1000) () rfl rfl rfl trivial (Sub.refl _) (Ent.sep (Ent.refl _) Ent.emp))
  obtain ⟨k, hkl, hki, hkg, hkn⟩ := idx_some hc
  rw [hki]
  obtain ⟨g, rfl⟩ : ∃ g, B = some ⟨g, 0, none⟩ := by
    cases B with
    | none => have := (hrm.2.2.2.1 rfl).1; omega
    | some ad => exact ⟨ad.block, by rw [← hrm.2.2.2.2 ad rfl]⟩
  refine J.convC (key := 1000) (q := 0) rfl rfl row_blk ?_
  refine J.exC (key := 1000) (q := 0) rfl rfl fun rest => ?_
  refine J.purC (key := 1000) (q := 0) rfl rfl fun hrest => ?_
  obtain ⟨hr1, hr2, hr3, hr4⟩ := hrest
  have hkt : keepI v p (l.take (k + 1)) = l.take k := by
    unfold keepI
    rw [List.take_succ_eq_append_getElem hkl, List.filter_append, List.filter_cons_of_neg (by rw [hkg]; decide), List.filter_nil, List.append_nil]
    refine List.filter_eq_self.2 fun x hx => ?_
    obtain ⟨j, hj, rfl⟩ := List.getElem_of_mem hx
    rw [List.length_take] at hj
    rw [List.getElem_take, hkn j _ (List.getElem?_eq_getElem (by omega)) (by omega)]; rfl
  repeat (first | refine Plan.move rfl rfl rfl rfl ?_ | refine Plan.assign rfl rfl rfl rfl ?_ | (refine Plan.ints rfl rfl rfl rfl rfl rfl ?_; (refine Plan.int (i64r (by omega)) ?_)) | refine J.seq (J.seq (J.region mixed hI (by kernel_rfl) ?_)) | refine J.skip ?_)
  refine Plan.int (y := ((k + 1 : Nat) : Int)) (by omega) ?_
  repeat (fail)
  refine J.block (J.loop (dlEI w0 F l g cap a b v wh p rest) (fun s => s.1 ≤ l.length ∧ s.2.1 < s.1 ∧ s.2.1 = (keepI v p (l.take s.1)).length ∧ s.2.2.length = (s.1 - s.2.1) * 3) (fun s => l.length - s.1) (k + 1, k, itI l[k]) ⟨hkl, Nat.lt_succ_self k, by rw [hkt, List.length_take]; simp only; omega, by show _ = (k + 1 - k) * _; rw [show k + 1 - k = 1 by omega, Nat.one_mul]; rfl⟩ ?_ ?_)
  · have hcs : l.flatMap itI ++ rest = (keepI v p (l.take (k + 1))).flatMap itI ++ (itI l[k] ++ ((l.drop (k + 1)).flatMap itI ++ rest)) := by
      rw [hkt, ← List.append_assoc, ← List.append_assoc]
      congr 1
      have : l.flatMap itI = (l.take k ++ l[k] :: l.drop (k + 1)).flatMap itI := by rw [List.getElem_cons_drop, List.take_append_drop]
      rw [this, List.flatMap_append, List.flatMap_cons, ← List.append_assoc]
    rw [hcs]
    repeat (first | exact Weak.nil | refine Weak.cons rfl (Sub.refl _) ?_)
  rintro ⟨j, i, junk⟩ ⟨hj, hij, hi, hjl⟩
  simp only at hj hij hi hjl
  change J _ _ _ _ _ (dlFI w0 F l g cap a b v wh p rest j i junk)
  have hKl := flat_len itLI (keepI v p (l.take j))
  rw [← hi] at hKl
  have hDl := flat_len itLI (l.drop j)
  rw [List.length_drop] at hDl
  repeat (first | refine Plan.move rfl rfl rfl rfl ?_ | refine J.seq (J.seq (J.region mixed hI (by kernel_rfl) ?_)))
  refine Plan.lenE rfl rfl rfl rfl Try.underlying31 ?_
  repeat ((refine Plan.ints rfl rfl rfl rfl rfl rfl ?_; (skip)))
  refine J.condD rfl (fun hc => ?_) (fun hc => ?_)
  · have hlt : j < l.length := by omega
    have hd : l.drop j = l[j] :: l.drop (j + 1) := (List.getElem_cons_drop (h := hlt)).symm
    repeat (refine J.skip ?_)
    refine J.seq (J.block ?_)
    repeat (first | refine Plan.move rfl rfl rfl rfl ?_ | refine J.seq (J.region mixed hI (by kernel_rfl) ?_))
    refine Plan.indexC (off := j * 3) rfl rfl rfl rfl rfl eltItI hlt (by omega) ?_
    refine Plan.loadAggC (key := 1000) (q := 0) (vs := itI l[j]) rfl rfl rfl rfl rfl rfl (blk_reads ?_) Try.underlying33 rfl (by rw [itLI]; kernel_rfl) (by decide) ?_
    · rw [← List.append_assoc, List.drop_left' (by rw [List.length_append, hKl, hjl, ← Nat.add_mul]; congr 1; omega), hd, List.flatMap_cons, List.append_assoc, List.take_left]
    refine Plan.allocC (key := 1000) (z := .agg (itI it0I).toArray) rfl rfl rfl (by intro _ e; cases e; decide) (by kernel_rfl) rfl hA fun γ => ?_
    refine Plan.storeC (key := 1000) (q := 3) (off := 0) rfl rfl rfl rfl rfl rfl (fun u hu => itOneI l[j] u hu) (by kernel_rfl) rfl hA rfl (obj_pat (show 0 + (itI l[j]).length ≤ (itI it0I).length by rw [itLI, itLI]; omega)) ?_
    have hobj : (itI it0I).take 0 ++ itI l[j] ++ (itI it0I).drop (0 + (itI l[j]).length) = itI l[j] := by
      rw [List.take_zero, List.nil_append, List.drop_of_length_le (by rw [itLI, itLI]; omega), List.append_nil]
    obtain ⟨K, hK⟩ : ∃ K, K = (keepI v p (l.take j)).flatMap itI := ⟨_, rfl⟩
    obtain ⟨T, hT⟩ : ∃ T, T = (l.drop (j + 1)).flatMap itI ++ rest := ⟨_, rfl⟩
    have hcs : (keepI v p (l.take j)).flatMap itI ++ (junk ++ ((l.drop j).flatMap itI ++ rest)) = K ++ (junk ++ (itI l[j] ++ T)) := by rw [hd, List.flatMap_cons, List.append_assoc, ← hK, ← hT]
    rw [← hK] at hKl
    have hks : keepI v p (l.take (j + 1)) = keepI v p (l.take j) ++ if goesI v p l[j] then [] else [l[j]] := by
      unfold keepI
      rw [List.take_succ_eq_append_getElem hlt, List.filter_append]
      congr 1
      cases hgg : goesI v p l[j] <;> simp [List.filter_cons, hgg]
    refine J.regroup (key := 1000) [blk g 33 (K ++ (junk ++ (itI l[j] ++ T))), obj a (vList v), obj b [wh], obj γ (itI l[j])] rfl (Ent.sep (Ent.blkEq hcs) (Ent.sep (Ent.refl _) (Ent.sep (Ent.refl _) (Ent.sep (Ent.of_eq (congrArg (obj γ) hobj)) (Ent.refl _))))) ?_
    repeat (first | refine Plan.move rfl rfl rfl rfl ?_ | refine J.seq (J.region mixed hI (by kernel_rfl) ?_))
    refine Plan.loadAggC (key := 1000) (q := 3) (vs := itI l[j]) rfl rfl rfl rfl rfl rfl obj_whole Try.underlying33 rfl (by rw [itLI]; kernel_rfl) (by decide) ?_
    refine Plan.callFR (key := 1000) (B := 0) (fs := [.ex (.agg (itI l[j]).toArray)]) (caps := [ptr a, ptr b]) rfl rfl rfl rfl (drop1_fnI a b v wh p hw l[j]) Try.func49 rfl rfl (fun _ _ => Nat.zero_le _) (Opnds.cons rfl (Sub.refl _) Opnds.nil) rfl (Ent.right.trans (Ent.sep (Ent.refl _) Ent.left)) (by decide) ?_
    repeat (refine Plan.un rfl rfl rfl rfl rfl ?_)
    refine J.cond rfl (fun hg => ?_) (fun hg => ?_)
    · have hg' : goesI v p l[j] = false := by simpa using hg
      rw [hg', if_neg (by decide)] at hks
      have hlen : (keepI v p (l.take (j + 1))).length = i + 1 := by rw [hks, List.length_append, ← hi]; rfl
      have hKl2 : K.length = i * 3 := hKl
      have hjs : 3 ≤ junk.length := by rw [hjl]; omega
      have hcs2 : (K ++ (junk ++ (itI l[j] ++ T))).take (i * 3) ++ itI l[j] ++ (K ++ (junk ++ (itI l[j] ++ T))).drop (i * 3 + (itI l[j]).length) = (keepI v p (l.take (j + 1))).flatMap itI ++ ((junk.drop 3 ++ itI l[j]) ++ T) := by
        rw [List.take_left' hKl2, ← List.drop_drop, List.drop_left' hKl2, itLI, List.drop_append_of_le_length hjs, hks, List.flatMap_append, ← hK]
        simp only [List.flatMap_cons, List.flatMap_nil, List.append_nil, List.append_assoc]
      repeat (first | refine Plan.move rfl rfl rfl rfl ?_ | refine J.seq (J.region mixed hI (by kernel_rfl) ?_))
      refine Plan.loadAggC (key := 1000) (q := 3) (vs := itI l[j]) rfl rfl rfl rfl rfl rfl obj_whole Try.underlying33 rfl (by rw [itLI]; kernel_rfl) (by decide) ?_
      refine Plan.indexC (off := i * 3) rfl rfl rfl rfl rfl eltItI (by omega) (by omega) ?_
      refine Plan.storeC (key := 1000) (q := 0) (off := i * 3) rfl rfl rfl rfl rfl rfl (fun u hu => itOneI l[j] u hu) (by kernel_rfl) rfl hA rfl (blk_pat (show i * 3 + (itI l[j]).length ≤ _ by rw [List.length_append, List.length_append, List.length_append, itLI, hKl2]; omega)) ?_
      repeat (first | refine Plan.move rfl rfl rfl rfl ?_ | refine Plan.assign rfl rfl rfl rfl ?_ | (refine Plan.ints rfl rfl rfl rfl rfl rfl ?_; (refine Plan.int (i64r (by omega)) ?_)) | refine J.region mixed hI (by kernel_rfl) ?_)
      refine Plan.int (y := ((j + 1 : Nat) : Int)) (by omega) ?_
      repeat (fail)
      refine Nrm.next (j + 1, i + 1, junk.drop 3 ++ itI l[j]) ⟨by simp only; omega, by simp only; omega, hlen.symm, by simp only; rw [List.length_append, List.length_drop, itLI, hjl]; omega⟩ (by simp only; omega) ?_
      refine Weak.cons rfl (Sub.refl _) (Weak.cons rfl (Sub.refl _) (Weak.cons rfl (Sub.refl _) (Weak.cons rfl (Sub.refl _) (Weak.cons rfl (Sub.heap (Ent.sep (Ent.blkEq ?_) (Ent.sep (Ent.refl _) (Ent.sep (Ent.refl _) Ent.emp)))) Weak.nil))))
      rw [← hT]; exact hcs2
    · have hg' : goesI v p l[j] = true := by simpa using hg
      rw [hg', if_pos rfl, List.append_nil] at hks
      repeat (first | refine Plan.move rfl rfl rfl rfl ?_ | refine Plan.assign rfl rfl rfl rfl ?_ | (refine Plan.ints rfl rfl rfl rfl rfl rfl ?_; (refine Plan.int (i64r (by omega)) ?_)) | refine J.region mixed hI (by kernel_rfl) ?_ | refine J.skip ?_)
      refine Plan.int (y := ((j + 1 : Nat) : Int)) (by omega) ?_
      repeat (fail)
      refine Nrm.next (j + 1, i, junk ++ itI l[j]) ⟨by simp only; omega, by simp only; omega, by simp only; rw [hks]; exact hi, by simp only; rw [List.length_append, itLI, hjl]; omega⟩ (by simp only; omega) ?_
      refine Weak.cons rfl (Sub.refl _) (Weak.cons rfl (Sub.refl _) (Weak.cons rfl (Sub.refl _) (Weak.cons rfl (Sub.refl _) (Weak.cons rfl (Sub.heap (Ent.sep (Ent.blkEq ?_) (Ent.sep (Ent.refl _) (Ent.sep (Ent.refl _) Ent.emp)))) Weak.nil))))
      simp only
      rw [hks, ← hK, ← hT, List.append_assoc]
  have hje : j = l.length := by omega
  subst hje
  rw [List.take_length] at hKl hi
  rw [List.drop_length] at hDl
  have hcs : (keepI v p (l.take l.length)).flatMap itI ++ (junk ++ ((l.drop l.length).flatMap itI ++ rest)) = (keepI v p l).flatMap itI ++ (junk ++ rest) := by rw [List.take_length, List.drop_length]; rfl
  have hrl : rest.length = (cap - l.length) * 3 := by rw [List.length_append, hr2] at hr1; omega
  rw [← hi]
  refine J.exit ?_
  refine J.regroup (key := 1000) [blk g 33 ((keepI v p l).flatMap itI ++ (junk ++ rest)), obj a (vList v), obj b [wh]] rfl (Ent.sep (Ent.blkEq hcs) (Ent.refl _)) ?_
  repeat (first | refine Plan.move rfl rfl rfl rfl ?_ | refine J.seq (J.region mixed hI (by kernel_rfl) ?_))
  refine Plan.sliceLo (a0 := i) rfl rfl rfl rfl eltItI rfl (by omega) (by omega) (by omega) ?_
  refine Plan.clearC (key := 1000) (q := 0) rfl rfl rfl rfl rfl eltItI rfl hA rfl (fun u hu => itOneI it0I u hu) (by rw [List.length_append, List.length_append, hKl, hjl]; omega) fun zs hzs => ?_
  have hfin : ((keepI v p l).flatMap itI ++ (junk ++ rest)).take (0 + i * 3) ++ zs ++ ((keepI v p l).flatMap itI ++ (junk ++ rest)).drop (0 + i * 3 + (l.length - i) * 3) = (keepI v p l).flatMap itI ++ (zs ++ rest) := by
    rw [Nat.zero_add, List.take_left' hKl, ← List.drop_drop, List.drop_left' hKl, List.drop_left' hjl, List.append_assoc]
  rw [hfin]
  repeat (first | refine Plan.move rfl rfl rfl rfl ?_ | refine J.seq (J.region mixed hI (by kernel_rfl) ?_))
  refine Plan.sliceHi (b0 := i) rfl rfl rfl rfl eltItI rfl (by omega) ?_
  repeat (refine Plan.assign rfl rfl rfl rfl ?_)
  refine J.ret (Nrm.retC1 (key := 1000) () rfl rfl rfl trivial (Sub.refl _) (Ent.sep ?_ Ent.emp))
  exact blk_row (by rw [List.length_append, List.length_append, hKl, hzs, hrl]; show _ = cap * 3; omega) hKl (show i ≤ cap by omega) (show cap ≤ _ by omega)
end Go.Proofs.Ytkhcjedlopiicaa
