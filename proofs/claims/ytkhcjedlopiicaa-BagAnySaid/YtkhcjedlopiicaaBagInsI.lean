/-
  Bags of int: slices.Insert.
-/
import Derived.Test.YtkhcjedlopiicaaBagFindI
set_option linter.unusedSimpArgs false
set_option linter.unusedVariables false
set_option maxRecDepth 20000
namespace Go.Proofs.Ytkhcjedlopiicaa
open Go.Free Go.RowKit Go.Proofs
set_option maxHeartbeats 4000000

theorem itOneI (x : Dt × Int) : ∀ u ∈ itI x, u.oneCell' = true := by
  simp [itC, encTI, encTS, EvV.enc, str, Value.oneCell']
abbrev rowII (B : Option Addr) (n cap : Nat) (xs : List Value) : Chunk := rowC 33 3 B n cap xs
theorem insert_fnI (B : Option Addr) (cap vb vc : Nat) (l : List (Dt × Int)) (hl : l.length ≤ 1000000) (i : Nat) (hi : i ≤ l.length) (y : Dt × Int) :
    SpcC Try.prog 45 [.ex (.slice B l.length cap), .ex (vi i), .ex (.slice (some ⟨vb, 0, none⟩) 1 vc)] (sepC (rowII B l.length cap (l.flatMap itI)) (rowII (some ⟨vb, 0, none⟩) 1 vc (itI y)))
      (fun _ : Option Addr × Nat => True) (fun x => .ex (.slice x.1 (l.length + 1) x.2)) (fun x => rowII x.1 (l.length + 1) x.2 ((insD l i y).flatMap itI)) := by
  refine SpcC.intro2 Try.func45 rfl (Nat.le_of_ble_eq_true rfl) fun w1 F args hd hc => ?_
  have hI := kept_below F w1
  have hA := Own.kept F w1
  refine J.sepC (key := 1000) (q := 0) rfl rfl ?_
  refine J.factC (key := 1000) (q := 0) rfl rfl (fun w F h => row_room h) fun hrm => ?_
  obtain ⟨hr1, hr2, hr3, hr4, hr5⟩ := hrm
  refine J.factC (key := 1000) (q := 1) rfl rfl (fun w F h => row_room h) fun hrv => ?_
  obtain ⟨-, hv2, hv3, -, -⟩ := hrv
  repeat (first | refine Plan.move rfl rfl rfl rfl ?_ | refine Plan.assign rfl rfl rfl rfl ?_ | refine J.seq (J.region mixed hI (by kernel_rfl) ?_))
  refine Plan.sliceAny rfl rfl rfl rfl eltItI rfl hi ?_
  repeat (first | refine Plan.move rfl rfl rfl rfl ?_ | refine J.seq (J.region mixed hI (by kernel_rfl) ?_))
  refine Plan.lenE rfl rfl rfl rfl Try.underlying31 ?_
  repeat (first | refine Plan.move rfl rfl rfl rfl ?_ | refine Plan.assign rfl rfl rfl rfl ?_ | (refine Plan.ints rfl rfl rfl rfl rfl rfl ?_; (skip)) | refine J.seq (J.region mixed hI (by kernel_rfl) ?_) | refine J.seq (J.seq (J.region mixed hI (by kernel_rfl) ?_)) | refine J.condF rfl ?_ | refine J.skip ?_)
  refine Plan.lenE rfl rfl rfl rfl Try.underlying31 ?_
  repeat (first | refine Plan.move rfl rfl rfl rfl ?_ | refine Plan.assign rfl rfl rfl rfl ?_ | (refine Plan.ints rfl rfl rfl rfl rfl rfl ?_; (skip)) | refine J.seq (J.seq (J.region mixed hI (by kernel_rfl) ?_)))
  refine J.condE rfl (fun hin => ?_) (fun hin => ?_)
  · have hin' : i = l.length := by omega
    subst hin'
    refine J.seeC (t := 2) (key := 1000) (q := 1) rfl rfl rfl (fun w F h => row_rowH h) ?_
    repeat (first | refine Plan.move rfl rfl rfl rfl ?_ | refine J.seq (J.region mixed hI (by kernel_rfl) ?_))
    refine Plan.appendC (key := 1000) (q := 0) rfl rfl rfl rfl rfl (Sub.refl _) eltItI (by intro _ e; cases e; decide) rfl hA rfl (itOneI y) (by rw [flat_len itLI, itLI]; omega) fun B' m' cap' hm' => ?_
    have hm2 : m' = l.length + 1 := by rw [flat_len itLI, itLI] at hm'; omega
    subst hm2
    repeat (refine Plan.assign rfl rfl rfl rfl ?_)
    refine J.ret (Nrm.retC1 (key := 1000) (B', cap') rfl rfl rfl trivial (Sub.refl _) (Ent.trans Ent.left (Ent.rowEq (by simp [insD]))))
  have hlt : i < l.length := by omega
  obtain ⟨g, rfl⟩ : ∃ g, B = some ⟨g, 0, none⟩ := by
    cases B with
    | none => have := (hr4 rfl).1; omega
    | some ad => exact ⟨ad.block, by rw [← hr5 ad rfl]⟩
  refine J.convC (key := 1000) (q := 0) rfl rfl row_blk ?_
  refine J.exC (key := 1000) (q := 0) rfl rfl fun rest => ?_
  refine J.purC (key := 1000) (q := 0) rfl rfl fun hrest => ?_
  refine J.convC (key := 1000) (q := 1) rfl rfl row_blk ?_
  refine J.exC (key := 1000) (q := 1) rfl rfl fun rest2 => ?_
  refine J.purC (key := 1000) (q := 1) rfl rfl fun hrest2 => ?_
  have hfl := flat_len itLI l
  have hyl := itLI y
  have hrl := hrest.1
  rw [List.length_append] at hrl
  have e1 := flat_take itLI l i hi rest
  have hpl : ((l.take i).flatMap itI).length = i * 3 := by rw [flat_len itLI, List.length_take, Nat.min_eq_left hi]
  have hdl : ((l.drop i).flatMap itI).length = (l.length - i) * 3 := by rw [flat_len itLI, List.length_drop]
  have hone : ∀ u ∈ (l.drop i).flatMap itI, u.oneCell' = true := fun u hu => by
    obtain ⟨x, _, hx⟩ := List.mem_flatMap.1 hu
    exact itOneI x u hx
  repeat (first | refine Plan.move rfl rfl rfl rfl ?_ | (refine Plan.ints rfl rfl rfl rfl rfl rfl ?_; (refine Plan.int (i64r (by omega)) ?_)) | refine J.seq (J.seq (J.region mixed hI (by kernel_rfl) ?_)) | refine J.skip ?_)
  refine Plan.capE rfl rfl rfl rfl Try.underlying31 ?_
  repeat ((refine Plan.ints rfl rfl rfl rfl rfl rfl ?_; (skip)))
  refine J.condD rfl (fun hroom => ?_) (fun hroom => ?_)
  · repeat (first | refine Plan.move rfl rfl rfl rfl ?_ | refine J.seq (J.region mixed hI (by kernel_rfl) ?_))
    refine Plan.sliceHi (b0 := i) rfl rfl rfl rfl eltItI rfl (by omega) ?_
    repeat (first | refine Plan.move rfl rfl rfl rfl ?_ | (refine Plan.ints rfl rfl rfl rfl rfl rfl ?_; (refine Plan.int (i64r (by omega)) ?_)))
    refine Plan.int (y := ((l.length + 1 - i : Nat) : Int)) (by omega) ?_
    refine Plan.appendZ (key := 1000) (q := 0) rfl rfl rfl (by intro _ e; cases e; decide) rfl rfl eltItI Try.underlying3 rfl hA rfl (by rw [List.length_append]; omega) (by omega) (by omega) (by omega) fun β cap' rest3 h1 h2 h3 => ?_
    rw [show i + (l.length + 1 - i) = l.length + 1 by omega, e1]
    repeat (first | refine Plan.move rfl rfl rfl rfl ?_ | refine Plan.assign rfl rfl rfl rfl ?_ | refine J.seq (J.region mixed hI (by kernel_rfl) ?_))
    refine Plan.sliceLo rfl rfl rfl rfl eltItI rfl (by omega) (by omega) (by omega) ?_
    repeat (refine Plan.move rfl rfl rfl rfl ?_)
    refine Plan.copyC (key := 1000) (q := 2) (q2 := 1) (cnt := 1) (news := itI y) rfl rfl rfl (by intro _ e; cases e; decide) rfl rfl eltItI rfl hA rfl rfl (blk_reads (by simp [hyl])) (by simp only [Nat.min_def]; split <;> omega) (by rw [hyl]) (itOneI y) (by rw [List.length_append, hpl, h3, hyl]; omega) ?_
    rw [show 0 + i * 3 = i * 3 by omega, splice hpl]
    repeat (first | refine Plan.move rfl rfl rfl rfl ?_ | (refine Plan.ints rfl rfl rfl rfl rfl rfl ?_; (refine Plan.int (i64r (by omega)) ?_)) | refine J.seq (J.region mixed hI (by kernel_rfl) ?_))
    refine Plan.sliceLo (a0 := i + 1) rfl rfl rfl rfl eltItI rfl (by omega) (by omega) (by omega) ?_
    repeat (refine Plan.move rfl rfl rfl rfl ?_)
    refine Plan.sliceLo rfl rfl rfl rfl eltItI rfl (by omega) (by omega) (by omega) ?_
    have hPl : ((l.take i).flatMap itI ++ itI y).length = (i + 1) * 3 := by rw [List.length_append, hpl, hyl]; omega
    have hR3 : (rest3.drop (itI y).length).length = (cap' - i - 1) * 3 := by rw [List.length_drop, h3, hyl]; omega
    rw [← List.append_assoc]
    refine Plan.copyC (key := 1000) (q := 2) (q2 := 0) (cnt := l.length - i) (news := (l.drop i).flatMap itI) rfl rfl rfl (by intro _ e; cases e; decide) rfl rfl eltItI rfl hA rfl rfl (blk_reads (by rw [show 0 + i * 3 = i * 3 by omega]; exact flat_mid itLI l i hi rest)) (by simp only [Nat.min_def]; split <;> omega) hdl hone (by rw [List.length_append, hPl, hdl, hR3]; omega) ?_
    rw [show 0 + (i + 1) * 3 = (i + 1) * 3 by omega, splice hPl, ← List.append_assoc]
    have hins : (insD l i y).flatMap itI = (l.take i).flatMap itI ++ itI y ++ (l.drop i).flatMap itI := by simp [insD]
    repeat (first | refine Plan.move rfl rfl rfl rfl ?_ | refine Plan.assign rfl rfl rfl rfl ?_ | refine J.seq (J.region mixed hI (by kernel_rfl) ?_))
    refine J.ret (Nrm.retC1 (key := 1000) (some ⟨β, 0, none⟩, cap') rfl rfl rfl trivial (Sub.refl _) (Ent.right.trans (Ent.right.trans (Ent.left.trans ?_))))
    rw [hins]
    exact blk_row (by rw [List.length_append, List.length_append, hPl, hdl, List.length_drop, hR3]; show _ = cap' * 3; omega) (by rw [List.length_append, hPl, hdl]; omega) (show _ ≤ cap' by omega) (show cap' ≤ _ by omega)
  repeat (first | refine Plan.move rfl rfl rfl rfl ?_ | (refine Plan.ints rfl rfl rfl rfl rfl rfl ?_; (refine Plan.int (i64r (by omega)) ?_)) | refine J.seq (J.region mixed hI (by kernel_rfl) ?_) | refine J.skip ?_)
  refine Plan.sliceHi (b0 := l.length + 1) rfl rfl rfl rfl eltItI rfl (by omega) ?_
  repeat (first | refine Plan.move rfl rfl rfl rfl ?_ | refine Plan.assign rfl rfl rfl rfl ?_ | (refine Plan.ints rfl rfl rfl rfl rfl rfl ?_; (refine Plan.int (i64r (by omega)) ?_)) | refine J.seq (J.seq (J.region mixed hI (by kernel_rfl) ?_)))
  refine Plan.sliceLo (a0 := i + 1) rfl rfl rfl rfl eltItI rfl (by omega) (by omega) (by omega) ?_
  repeat (fail)
  refine Plan.overlapsC (key := 1000) (q := 1) (q2 := 0) rfl rfl rfl rfl rfl rfl rfl rfl rfl rfl eltItI rfl rfl rfl (by decide) (by rw [List.length_append]; omega) (Nat.le_of_ble_eq_true rfl) ?_
  repeat (first | refine Plan.move rfl rfl rfl rfl ?_ | (refine Plan.ints rfl rfl rfl rfl rfl rfl ?_; (refine Plan.int (i64r (by omega)) ?_)) | refine Plan.un rfl rfl rfl rfl rfl ?_ | refine J.seq (J.region mixed hI (by kernel_rfl) ?_) | refine J.condT rfl ?_)
  refine Plan.sliceLo (a0 := i + 1) rfl rfl rfl rfl eltItI rfl (by omega) (by omega) (by omega) ?_
  repeat (refine Plan.move rfl rfl rfl rfl ?_)
  refine Plan.sliceLo rfl rfl rfl rfl eltItI rfl (by omega) (by omega) (by omega) ?_
  have hL0 : (l.flatMap itI ++ rest).length = cap * 3 := hrest.1
  refine Plan.copyC (key := 1000) (q := 0) (q2 := 0) (cnt := l.length - i) (news := (l.drop i).flatMap itI) rfl rfl rfl (by intro _ e; cases e; decide) rfl rfl eltItI rfl hA rfl rfl (blk_reads (by rw [show 0 + i * 3 = i * 3 by omega]; exact flat_mid itLI l i hi rest)) (by simp only [Nat.min_def]; split <;> omega) hdl hone (by rw [hL0, hdl]; omega) ?_
  obtain ⟨mid, hmid⟩ : ∃ mid, mid = (l.flatMap itI ++ rest).take (0 + (i + 1) * 3) ++ (l.drop i).flatMap itI ++ (l.flatMap itI ++ rest).drop (0 + (i + 1) * 3 + ((l.drop i).flatMap itI).length) := ⟨_, rfl⟩
  rw [← hmid]
  have hmidl : mid.length = cap * 3 := by rw [hmid, List.length_append, List.length_append, List.length_take, List.length_drop, hL0, hdl, Nat.min_eq_left (by omega)]; omega
  repeat (first | refine Plan.move rfl rfl rfl rfl ?_ | refine J.seq (J.region mixed hI (by kernel_rfl) ?_))
  refine Plan.sliceLo (a0 := i) rfl rfl rfl rfl eltItI rfl (by omega) (by omega) (by omega) ?_
  repeat (refine Plan.move rfl rfl rfl rfl ?_)
  refine Plan.copyC (key := 1000) (q := 0) (q2 := 1) (cnt := 1) (news := itI y) rfl rfl rfl (by intro _ e; cases e; decide) rfl rfl eltItI rfl hA rfl rfl (blk_reads (by simp [hyl])) (by simp only [Nat.min_def]; split <;> omega) (by rw [hyl]) (itOneI y) (by rw [hmidl, hyl]; omega) ?_
  obtain ⟨tail, ht⟩ : ∃ tail, tail = (l.flatMap itI ++ rest).drop (0 + (i + 1) * 3 + ((l.drop i).flatMap itI).length) := ⟨_, rfl⟩
  have htl : tail.length = cap * 3 - ((i + 1) * 3 + (l.length - i) * 3) := by rw [ht, List.length_drop, hL0, hdl]; omega
  have hins : (insD l i y).flatMap itI = (l.take i).flatMap itI ++ itI y ++ (l.drop i).flatMap itI := by simp [insD]
  have hfin : mid.take (0 + i * 3) ++ itI y ++ mid.drop (0 + i * 3 + (itI y).length) = (insD l i y).flatMap itI ++ tail := by
    have hm : mid = (l.flatMap itI ++ rest).take ((i + 1) * 3) ++ ((l.drop i).flatMap itI ++ tail) := by rw [hmid, ht, List.append_assoc, Nat.zero_add]
    have hk1 : ((l.flatMap itI ++ rest).take ((i + 1) * 3)).length = (i + 1) * 3 := by rw [List.length_take, hL0, Nat.min_eq_left (by omega)]
    have a1 : mid.take (0 + i * 3) = (l.take i).flatMap itI := by
      rw [hm, Nat.zero_add, List.take_append_of_le_length (by rw [hk1]; omega), List.take_take, Nat.min_eq_left (by omega), e1]
    have a2 : mid.drop (0 + i * 3 + (itI y).length) = (l.drop i).flatMap itI ++ tail := by
      rw [hm, show 0 + i * 3 + (itI y).length = (i + 1) * 3 by rw [hyl]; omega, List.drop_left' hk1]
    rw [a1, a2, hins]; simp only [List.append_assoc]
  rw [hfin]
  repeat (first | refine Plan.move rfl rfl rfl rfl ?_ | refine Plan.assign rfl rfl rfl rfl ?_ | refine J.seq (J.region mixed hI (by kernel_rfl) ?_))
  have hil : ((insD l i y).flatMap itI).length = (l.length + 1) * 3 := by rw [flat_len itLI, insD_length]
  refine J.ret (Nrm.retC1 (key := 1000) (some ⟨g, 0, none⟩, cap) rfl rfl rfl trivial (Sub.refl _) (Ent.left.trans ?_))
  exact blk_row (by rw [List.length_append, hil, htl]; show _ = cap * 3; omega) hil (show _ ≤ cap by omega) (show cap ≤ _ by omega)
end Go.Proofs.Ytkhcjedlopiicaa
