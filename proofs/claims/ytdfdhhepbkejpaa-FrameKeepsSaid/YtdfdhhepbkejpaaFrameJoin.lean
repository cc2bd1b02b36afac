/-
  The law FrameJoins returns true for all arguments.
-/
import Derived.Test.YtdfdhhepbkejpaaFrameLaid
set_option linter.unusedSimpArgs false
set_option linter.unusedVariables false
namespace Go.Proofs.Ytdfdhhepbkejpaa
open Go.Free Go.RowKit Go.Proofs
set_option maxHeartbeats 2000000

theorem laid_no {ls : List (List UInt8)} (hl : ls.length ≤ 9223372036854775807) (h : laidOk ls = false) : Spc Try.prog 32 [row 1 (ss ls)] fun B => .tup [ownB B [], .ex (.bool false)] := by
  have k := law_laid ls hl
  have e : laidB ls = [] := by unfold laidB; rw [h]; rfl
  rw [h, e] at k; exact k
theorem laid_yes {ls : List (List UInt8)} (hl : ls.length ≤ 9223372036854775807) (h : laidOk ls = true) : Spc Try.prog 32 [row 1 (ss ls)] fun B => .tup [ownB B (frames ls), .ex (.bool true)] := by
  have k := law_laid ls hl
  have e : laidB ls = frames ls := by unfold laidB; rw [if_pos h]
  rw [h, e] at k; exact k
theorem frame_ScanAll {ls : List (List UInt8)} (h : ∀ x ∈ ls, x.length ≤ 65529) (hl : (frames ls).length ≤ 1000000) : Spc Try.prog 29 [bytesF (frames ls)] fun B => .tup [nestB B ls, .ex (.int .i64 (frames ls).length), .ex (.bool true)] := by
  have k := frame_Scan (frames ls) hl
  rw [scan_all ls h] at k
  simp only [beq_self_eq_true] at k
  exact k

theorem lawFJoins (a b : List (List UInt8)) (hla : a.length ≤ 9223372036854775807) (hlb : b.length ≤ 9223372036854775807) : Spc Try.prog 12 [row 1 (ss a), row 1 (ss b)] fun _ => .ex (.bool true) := by
  refine Spc.intro Try.func12 rfl (Nat.le_of_ble_eq_true rfl) fun w0 => ?_
  have hI := hIb w0
  repeat (first | refine Plan.assign rfl rfl rfl rfl ?_ | refine J.seq (J.region mixed hI (by kernel_rfl) ?_) | refine J.seq (J.seq (J.region mixed hI (by kernel_rfl) ?_)))
  refine Plan.call (B := w0.heap.size) rfl rfl rfl (awakeF) Try.func24 rfl rfl (hBb w0) (by repeat (exact Opnds.nil)) ?_
  repeat (first | refine Plan.move rfl rfl rfl rfl ?_ | refine Plan.un rfl rfl rfl rfl rfl ?_ | refine J.seq (J.region mixed hI (by kernel_rfl) ?_) | refine J.condF rfl ?_ | refine J.skip ?_)
  cases ha : laidOk a with
  | false =>
    refine Plan.call (B := w0.heap.size) rfl rfl rfl (laid_no hla ha) Try.func32 rfl rfl (hBb w0) (by repeat (first | exact Opnds.nil | refine Opnds.cons rfl (by exact Sub.old (fun _ h => h)) ?_)) ?_
    repeat (first | refine Plan.move rfl rfl rfl rfl ?_ | refine Plan.assign rfl rfl rfl rfl ?_ | refine Plan.extract rfl rfl rfl rfl rfl ?_ | refine J.seq (J.region mixed hI (by kernel_rfl) ?_))
    refine Plan.call (B := w0.heap.size) rfl rfl rfl (law_laid b hlb) Try.func32 rfl rfl (hBb w0) (by repeat (first | exact Opnds.nil | refine Opnds.cons rfl (by exact Sub.old (fun _ h => h)) ?_)) ?_
    repeat (first | refine Plan.move rfl rfl rfl rfl ?_ | refine Plan.assign rfl rfl rfl rfl ?_ | refine Plan.skip rfl rfl ?_ | refine Plan.extract rfl rfl rfl rfl rfl ?_ | refine Plan.pick rfl rfl rfl rfl rfl ?_ | refine Plan.un rfl rfl rfl rfl rfl ?_ | refine J.seq (J.region mixed hI (by kernel_rfl) ?_) | refine J.seq (J.seq (J.region mixed hI (by kernel_rfl) ?_)) | refine J.condT rfl ?_)
    exact J.ret (Nrm.ret1 rfl (fun _ h => h) rfl fun B _ => Sub.refl _)
  | true =>
  refine Plan.call (B := w0.heap.size) rfl rfl rfl (laid_yes hla ha) Try.func32 rfl rfl (hBb w0) (by repeat (first | exact Opnds.nil | refine Opnds.cons rfl (by exact Sub.old (fun _ h => h)) ?_)) ?_
  repeat (first | refine Plan.move rfl rfl rfl rfl ?_ | refine Plan.assign rfl rfl rfl rfl ?_ | refine Plan.extract rfl rfl rfl rfl rfl ?_ | refine J.seq (J.region mixed hI (by kernel_rfl) ?_))
  cases hb : laidOk b with
  | false =>
    refine Plan.call (B := w0.heap.size) rfl rfl rfl (laid_no hlb hb) Try.func32 rfl rfl (hBb w0) (by repeat (first | exact Opnds.nil | refine Opnds.cons rfl (by exact Sub.old (fun _ h => h)) ?_)) ?_
    repeat (first | refine Plan.move rfl rfl rfl rfl ?_ | refine Plan.assign rfl rfl rfl rfl ?_ | refine Plan.extract rfl rfl rfl rfl rfl ?_ | refine Plan.pick rfl rfl rfl rfl rfl ?_ | refine Plan.un rfl rfl rfl rfl rfl ?_ | refine J.seq (J.region mixed hI (by kernel_rfl) ?_) | refine J.seq (J.seq (J.region mixed hI (by kernel_rfl) ?_)) | refine J.condT rfl ?_)
    exact J.ret (Nrm.ret1 rfl (fun _ h => h) rfl fun B _ => Sub.refl _)
  | true =>
  have ha' := of_decide_eq_true ha
  have hb' := of_decide_eq_true hb
  have hfa := frames_le ha'.2
  have hfb := frames_le hb'.2
  refine Plan.call (B := w0.heap.size) rfl rfl rfl (laid_yes hlb hb) Try.func32 rfl rfl (hBb w0) (by repeat (first | exact Opnds.nil | refine Opnds.cons rfl (by exact Sub.old (fun _ h => h)) ?_)) ?_
  repeat (first | refine Plan.move rfl rfl rfl rfl ?_ | refine Plan.assign rfl rfl rfl rfl ?_ | refine Plan.extract rfl rfl rfl rfl rfl ?_)
  refine J.seq (J.seq (J.region mixed hI (by kernel_rfl) ?_))
  repeat (first | refine Plan.move rfl rfl rfl rfl ?_ | refine Plan.pick rfl rfl rfl rfl rfl ?_ | refine Plan.un rfl rfl rfl rfl rfl ?_)
  refine J.weak [(0, row 1 (ss a)), (1, row 1 (ss b)), (5, ownB w0.heap.size (frames a)), (7, ownB w0.heap.size (frames b)), (29, .ex (.bool false))]
    (Weak.cons rfl (Sub.old fun _ h => h) (Weak.cons rfl (Sub.old fun _ h => h) (Weak.cons rfl (Sub.refl _) (Weak.cons rfl (Sub.refl _) (Weak.cons rfl (Sub.refl _) Weak.nil))))) ?_
  refine J.mark fun w0 hw => ?_
  have hI := hIb w0
  repeat (first | refine J.seq (J.region mixed hI (by kernel_rfl) ?_) | refine J.condF rfl ?_ | refine J.skip ?_)
  refine Plan.lit (B := w0.heap.size) rfl rfl rfl eltB rfl (hBb w0) rfl (by simp) (by decide) ?_
  repeat (refine Plan.move rfl rfl rfl rfl ?_)
  refine Plan.append (news := bs (frames a)) rfl rfl rfl rfl (Sub.refl _) rfl (Sub.oldOwn fun _ h => h) eltB (by intro d hd; cases hd; decide) (hGb w0) (bs_one _) (by simp only [bs_length, flat, List.flatMap_nil, List.length_nil]; omega) ?_
  repeat (refine Plan.move rfl rfl rfl rfl ?_)
  refine Plan.append (news := bs (frames b)) rfl rfl rfl rfl (Sub.refl _) rfl (Sub.oldOwn fun _ h => h) eltB (by intro d hd; cases hd; decide) (hGb w0) (bs_one _) (by simp only [bs_length, flat, List.flatMap_nil, List.nil_append]; omega) ?_
  have e1 : flat [] ++ bs (frames a) ++ bs (frames b) = bs (frames (a ++ b)) := by rw [frames_append, bs_append]; rfl
  rw [e1]
  have hab : ∀ x ∈ a ++ b, x.length ≤ 65529 := fun x hx => by
    rcases List.mem_append.1 hx with hx | hx
    · have := ha'.2 x hx; omega
    · have := hb'.2 x hx; omega
  have hfab : (frames (a ++ b)).length = (frames a).length + (frames b).length := by rw [frames_append, List.length_append]
  refine Plan.call (B := w0.heap.size) rfl rfl rfl (frame_ScanAll hab (by omega)) Try.func29 rfl rfl (hBb w0) (by repeat (first | exact Opnds.nil | refine Opnds.cons rfl (by exact Sub.own) ?_)) ?_
  repeat (first | refine Plan.move rfl rfl rfl rfl ?_ | refine Plan.assign rfl rfl rfl rfl ?_ | refine Plan.extract rfl rfl rfl rfl rfl ?_)
  refine J.weak [(0, row 1 (ss a)), (1, row 1 (ss b)), (5, bytesF (frames a)), (7, bytesF (frames b)), (9, nestR ((a ++ b).map bytesF)), (10, .ex (.int .i64 (frames (a ++ b)).length)), (11, .ex (.bool true))]
    (Weak.cons rfl (Sub.old fun _ h => h) (Weak.cons rfl (Sub.old fun _ h => h) (Weak.cons rfl (Sub.oldOwn fun _ h => h) (Weak.cons rfl (Sub.oldOwn fun _ h => h) (Weak.cons rfl (Sub.trans Sub.nestRead (Sub.nestMap fun _ => Sub.own)) (Weak.cons rfl (Sub.refl _) (Weak.cons rfl (Sub.refl _) Weak.nil))))))) ?_
  refine J.mark fun w0 hw2 => ?_
  have hI := hIb w0
  repeat (first | refine Plan.move rfl rfl rfl rfl ?_ | refine Plan.pick rfl rfl rfl rfl rfl ?_ | (refine Plan.ints rfl rfl rfl rfl rfl rfl ?_; (first | refine Plan.int (i64r (by omega)) ?_ | skip)) | refine Plan.lenB rfl rfl rfl rfl (by first | exact Sub.refl _ | exact Sub.old (fun _ h => h)) Try.underlying27 ?_ | refine J.seq (J.region mixed hI (by kernel_rfl) ?_))
  refine Plan.eqT (by rw [hfab]; omega) ?_
  repeat (refine Plan.move rfl rfl rfl rfl ?_)
  refine Plan.lit (B := w0.heap.size) rfl rfl rfl eltS rfl (hBb w0) rfl (by simp) (by decide) ?_
  repeat (refine Plan.move rfl rfl rfl rfl ?_)
  refine Plan.append (news := ss a) rfl rfl rfl rfl (Sub.refl _) rfl (Sub.old fun _ h => h) eltS (by intro d hd; cases hd; decide) (hGb w0) (ss_one _) (by simp only [ss_length, flat, List.flatMap_nil, List.length_nil]; omega) ?_
  repeat (refine Plan.move rfl rfl rfl rfl ?_)
  refine Plan.append (news := ss b) rfl rfl rfl rfl (Sub.refl _) rfl (Sub.old fun _ h => h) eltS (by intro d hd; cases hd; decide) (hGb w0) (ss_one _) (by simp only [ss_length, flat, List.flatMap_nil, List.nil_append]; omega) ?_
  have e2 : flat [] ++ ss a ++ ss b = ss (a ++ b) := by simp [flat, ss]
  rw [e2]
  refine Plan.call (B := w0.heap.size) rfl rfl rfl (law_texts (a ++ b) (a ++ b) (by simp; omega) (by simp; omega)) Try.func31 rfl rfl (hBb w0) (Opnds.cons rfl (Sub.old fun _ h => h) (Opnds.cons rfl Sub.own Opnds.nil)) ?_
  refine Plan.isT rfl ?_
  repeat (first | refine Plan.assign rfl rfl rfl rfl ?_ | refine Plan.pick rfl rfl rfl rfl rfl ?_)
  exact J.ret (Nrm.ret1 rfl (fun _ h => hIb _ _ _ hw (hIb _ _ _ hw2 h)) rfl fun B _ => Sub.refl _)
end Go.Proofs.Ytdfdhhepbkejpaa
