/-
  Bags of int: slices.Delete, slices.Clone.
-/
import Derived.Test.YtkhcjedlopiicaaBagInsI
import Derived.Test.YtkhcjedlopiicaaFreeSlices2
set_option linter.unusedSimpArgs false
set_option linter.unusedVariables false
set_option maxRecDepth 20000
namespace Go.Proofs.Ytkhcjedlopiicaa
open Go.Free Go.RowKit Go.Proofs
set_option maxHeartbeats 4000000

theorem delete_fnI (g cap : Nat) (l : List (Dt × Int)) (i : Nat) (hi : i < l.length) (hl : l.length ≤ 1000000) :
    SpcC Try.prog 47 [.ex (.slice (some ⟨g, 0, none⟩) l.length cap), .ex (vi i), .ex (vi (i + 1 : Nat))] (rowII (some ⟨g, 0, none⟩) l.length cap (l.flatMap itI))
      (fun _ : Unit => True) (fun _ => .ex (.slice (some ⟨g, 0, none⟩) (l.length - 1) cap)) (fun _ => rowII (some ⟨g, 0, none⟩) (l.length - 1) cap ((l.eraseIdx i).flatMap itI)) := by
  refine SpcC.intro2 Try.func47 rfl (Nat.le_of_ble_eq_true rfl) fun w1 F args hd hc => ?_
  have hI := kept_below F w1
  have hA := Own.kept F w1
  refine J.convC (key := 1000) (q := 0) rfl rfl row_blk ?_
  refine J.exC (key := 1000) (q := 0) rfl rfl fun rest => ?_
  refine J.purC (key := 1000) (q := 0) rfl rfl fun hrest => ?_
  obtain ⟨hr1, hr2, hr3, hr4⟩ := hrest
  have hfl := flat_len itLI l
  have e1 := flat_take itLI l i (by omega) rest
  have hpl : ((l.take i).flatMap itI).length = i * 3 := by rw [flat_len itLI, List.length_take, Nat.min_eq_left (by omega)]
  have hdl : ((l.drop (i + 1)).flatMap itI).length = (l.length - (i + 1)) * 3 := by rw [flat_len itLI, List.length_drop]
  have hone : ∀ u ∈ (l.drop (i + 1)).flatMap itI, u.oneCell' = true := fun u hu => by
    obtain ⟨x, _, hx⟩ := List.mem_flatMap.1 hu
    exact itOneI x u hx
  have hdel : (l.eraseIdx i).flatMap itI = (l.take i).flatMap itI ++ (l.drop (i + 1)).flatMap itI := by rw [List.eraseIdx_eq_take_drop_succ, List.flatMap_append]
  repeat (first | refine Plan.move rfl rfl rfl rfl ?_ | refine Plan.assign rfl rfl rfl rfl ?_ | refine J.seq (J.region mixed hI (by kernel_rfl) ?_))
  refine Plan.lenE rfl rfl rfl rfl Try.underlying31 ?_
  repeat (fail)
  refine Plan.slice3 (a0 := i) (b0 := i + 1) (c0 := l.length) rfl rfl rfl rfl eltItI rfl rfl rfl (by omega) (by omega) (by omega) ?_
  repeat (first | refine Plan.move rfl rfl rfl rfl ?_ | (refine Plan.ints rfl rfl rfl rfl rfl rfl ?_; (skip)) | refine J.seq (J.seq (J.region mixed hI (by kernel_rfl) ?_)))
  refine J.condE rfl (fun hc => by omega) (fun _ => ?_)
  repeat (first | refine Plan.move rfl rfl rfl rfl ?_ | refine J.seq (J.region mixed hI (by kernel_rfl) ?_) | refine J.skip ?_)
  refine Plan.lenE rfl rfl rfl rfl Try.underlying31 ?_
  repeat (first | refine Plan.move rfl rfl rfl rfl ?_ | refine Plan.assign rfl rfl rfl rfl ?_ | refine J.seq (J.region mixed hI (by kernel_rfl) ?_))
  refine Plan.sliceHi (b0 := i) rfl rfl rfl rfl eltItI rfl (by omega) ?_
  repeat (refine Plan.move rfl rfl rfl rfl ?_)
  refine Plan.sliceLoB (a0 := i + 1) rfl rfl rfl rfl eltItI rfl (by omega) ?_
  refine Plan.appendBlk (key := 1000) (q := 0) (q2 := 0) (news := (l.drop (i + 1)).flatMap itI) rfl rfl rfl (by intro _ e; cases e; decide) rfl rfl eltItI rfl hA rfl rfl (blk_reads ?_) hdl hone (by omega) (by rw [hr1, hdl]; omega) ?_
  · by_cases hcap : cap = i + 1
    · have : (l.drop (i + 1)).flatMap itI = [] := List.eq_nil_of_length_eq_zero (by rw [hdl, show l.length - (i + 1) = 0 by omega, Nat.zero_mul])
      rw [this]; rfl
    · rw [if_neg hcap, Nat.zero_add]; exact flat_mid itLI l (i + 1) (by omega) rest
  obtain ⟨rest2, hrest2⟩ : ∃ r, r = (l.flatMap itI ++ rest).drop (i * 3 + ((l.drop (i + 1)).flatMap itI).length) := ⟨_, rfl⟩
  rw [← hrest2, e1, ← hdel, show i + (l.length - (i + 1)) = l.length - 1 by omega]
  have hel : ((l.eraseIdx i).flatMap itI).length = (l.length - 1) * 3 := by rw [hdel, List.length_append, hpl, hdl]; omega
  have hr2l : rest2.length = (cap - (l.length - 1)) * 3 := by rw [hrest2, List.length_drop, hr1, hdl]; omega
  repeat (first | refine Plan.move rfl rfl rfl rfl ?_ | refine Plan.assign rfl rfl rfl rfl ?_ | refine J.seq (J.region mixed hI (by kernel_rfl) ?_))
  refine Plan.lenE rfl rfl rfl rfl Try.underlying31 ?_
  repeat (refine Plan.move rfl rfl rfl rfl ?_)
  refine Plan.sliceMid (a0 := l.length - 1) (b0 := l.length) rfl rfl rfl rfl eltItI rfl rfl (by omega) (by omega) (by omega) ?_
  refine Plan.clearC (key := 1000) (q := 0) rfl rfl rfl rfl rfl eltItI rfl hA rfl (fun u hu => itOneI it0I u hu) (by rw [List.length_append, hel, hr2l]; omega) fun zs hzs => ?_
  have hfin : ((l.eraseIdx i).flatMap itI ++ rest2).take (0 + (l.length - 1) * 3) ++ zs ++ ((l.eraseIdx i).flatMap itI ++ rest2).drop (0 + (l.length - 1) * 3 + (l.length - (l.length - 1)) * 3) = (l.eraseIdx i).flatMap itI ++ (zs ++ rest2.drop 3) := by
    rw [Nat.zero_add, List.take_left' hel, show (l.length - 1) * 3 + (l.length - (l.length - 1)) * 3 = ((l.eraseIdx i).flatMap itI).length + 3 by rw [hel]; omega, ← List.drop_drop, List.drop_left, List.append_assoc]
  rw [hfin]
  repeat (first | refine Plan.move rfl rfl rfl rfl ?_ | refine Plan.assign rfl rfl rfl rfl ?_ | refine J.seq (J.region mixed hI (by kernel_rfl) ?_))
  refine J.ret (Nrm.retC1 (key := 1000) () rfl rfl rfl trivial (Sub.refl _) (Ent.left.trans ?_))
  exact blk_row (by rw [List.length_append, List.length_append, hel, hzs, List.length_drop, hr2l]; show _ = cap * 3; omega) hel (show _ ≤ cap by omega) (show cap ≤ _ by omega)
end Go.Proofs.Ytkhcjedlopiicaa
