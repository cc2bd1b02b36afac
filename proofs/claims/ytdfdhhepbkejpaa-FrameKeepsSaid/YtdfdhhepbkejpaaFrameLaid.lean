/-
  The law's own laid: frames one behind the other; how they are scanned; the law FrameJoins.
-/
import Derived.Test.YtdfdhhepbkejpaaFrameTexts
set_option linter.unusedSimpArgs false
set_option linter.unusedVariables false
namespace Go.Proofs.Ytdfdhhepbkejpaa
open Go.Free Go.RowKit Go.Proofs
set_option maxHeartbeats 2000000

def frames (ls : List (List UInt8)) : List UInt8 := ls.flatMap fPut
theorem frames_append (a b : List (List UInt8)) : frames (a ++ b) = frames a ++ frames b := by simp [frames]
theorem frames_cons (x : List UInt8) (b : List (List UInt8)) : frames (x :: b) = fPut x ++ frames b := by simp [frames]
def laidOk (ls : List (List UInt8)) : Bool := decide (ls.length ≤ 100 ∧ ∀ x ∈ ls, x.length ≤ 1000)
def laidB (ls : List (List UInt8)) : List UInt8 := if laidOk ls = true then frames ls else []
theorem frames_le {ls : List (List UInt8)} (h : ∀ x ∈ ls, x.length ≤ 1000) : (frames ls).length ≤ 1006 * ls.length := by
  induction ls with
  | nil => simp [frames]
  | cons x ls ih =>
    have h1 := ih fun y hy => h y (List.mem_cons_of_mem _ hy)
    have h2 := h x List.mem_cons_self
    rw [frames_cons, List.length_append, fPut_length, List.length_cons]
    omega
theorem snoc_take {ls : List (List UInt8)} {i : Nat} (h : i < ls.length) : ls.take (i + 1) = ls.take i ++ [ls.getD i []] := by
  rw [List.take_add_one, List.getElem?_eq_getElem h]; simp [List.getD_eq_getElem?_getD, List.getElem?_eq_getElem h]

def ldE (w0 : World) (ls : List (List UInt8)) (i : Nat) : Env :=
  [(0, .old w0 (row 1 (ss ls))), (4, ownB w0.heap.size (frames (ls.take i))), (12, .ex (.int .i64 ls.length)), (13, .ex (.int .i64 i))]

theorem law_laid (ls : List (List UInt8)) (hl : ls.length ≤ 9223372036854775807) : Spc Try.prog 32 [row 1 (ss ls)] fun B => .tup [ownB B (laidB ls), .ex (.bool (laidOk ls))] := by
  refine Spc.intro Try.func32 rfl (Nat.le_of_ble_eq_true rfl) fun w0 => ?_
  have hI := hIb w0
  have no : ¬ (ls.length ≤ 100 ∧ ∀ x ∈ ls, x.length ≤ 1000) → laidB ls = [] ∧ laidOk ls = false := fun h => by
    have h1 : laidOk ls = false := decide_eq_false h
    exact ⟨by unfold laidB; rw [h1]; rfl, h1⟩
  repeat (first | refine Plan.move rfl rfl rfl rfl ?_ | refine Plan.assign rfl rfl rfl rfl ?_ | refine J.seq (J.region mixed hI (by kernel_rfl) ?_) | refine J.seq (J.seq (J.region mixed hI (by kernel_rfl) ?_)))
  refine Plan.lenRow (m := ls.length) rfl rfl rfl rfl (Sub.old fun _ h => h) Try.underlying48 (by rw [ss_length]; omega) (by decide) ?_
  repeat ((refine Plan.ints rfl rfl rfl rfl rfl rfl ?_; (skip)))
  refine J.condD rfl (fun hc => ?_) (fun hc => ?_)
  · obtain ⟨n1, n2⟩ := no (by omega)
    rw [n1, n2]
    repeat (first | refine Plan.assign rfl rfl rfl rfl ?_ | refine J.seq (J.region mixed hI (by kernel_rfl) ?_))
    exact J.ret (Nrm.ret2 rfl (fun _ h => h) fun B hB => ⟨_, rfl, Ress.cons rfl (by exact Sub.nilOwn (fun _ h => Nat.le_trans hB h.size)) (Ress.cons rfl (by exact Sub.refl _) Ress.nil)⟩)
  repeat (first | refine Plan.move rfl rfl rfl rfl ?_ | refine J.seq (J.seq (J.region mixed hI (by kernel_rfl) ?_)) | refine J.skip ?_)
  refine Plan.lenRow (m := ls.length) rfl rfl rfl rfl (Sub.old fun _ h => h) Try.underlying48 (by rw [ss_length]; omega) (by decide) ?_
  repeat (refine Plan.move rfl rfl rfl rfl ?_)
  refine J.block (J.loop (ldE w0 ls) (fun i => i ≤ ls.length ∧ ∀ x ∈ ls.take i, x.length ≤ 1000) (fun i => ls.length - i) 0 ⟨Nat.zero_le _, by simp⟩ ?_ ?_)
  · exact Weak.cons rfl (Sub.refl _) (Weak.cons rfl (Sub.nilOwn (hBb w0)) (Weak.cons rfl (Sub.refl _) (Weak.cons rfl (Sub.refl _) Weak.nil)))
  rintro i ⟨hi, hsm⟩
  have hfr := frames_le hsm
  rw [List.length_take] at hfr
  repeat (first | (refine Plan.ints rfl rfl rfl rfl rfl rfl ?_; (skip)) | refine J.seq (J.region mixed hI (by kernel_rfl) ?_))
  refine J.seq (J.condD rfl (fun hc => ?_) (fun hc => ?_))
  · have hlt : i < ls.length := by omega
    obtain ⟨x, hx⟩ : ∃ x, x = ls.getD i [] := ⟨_, rfl⟩
    have hxm : x ∈ ls := by rw [hx, List.getD_eq_getElem?_getD, List.getElem?_eq_getElem hlt]; exact List.getElem_mem hlt
    have hst := snoc_take hlt
    rw [← hx] at hst
    repeat (refine J.skip ?_)
    refine J.seq (J.block ?_)
    repeat (first | refine Plan.move rfl rfl rfl rfl ?_ | refine Plan.assign rfl rfl rfl rfl ?_ | refine J.seq (J.region mixed hI (by kernel_rfl) ?_) | refine J.seq (J.seq (J.region mixed hI (by kernel_rfl) ?_)))
    refine Plan.indexAddr (fun l : List UInt8 => [str l]) 1 ls [] rfl rfl rfl rfl (Sub.trans (Sub.old fun _ h => h) (Sub.of_eq (by rw [ss_flat]))) rfl eltS (fun _ => rfl) (by omega) (by omega) ?_
    refine Plan.load rfl rfl rfl rfl (Sub.refl _) Try.underlying9 rfl ?_
    rw [Int.toNat_natCast, ← hx]
    repeat (first | refine Plan.lenStr rfl rfl rfl rfl Try.underlying9 ?_ | (refine Plan.ints rfl rfl rfl rfl rfl rfl ?_; (skip)))
    refine J.condD rfl (fun hc2 => ?_) (fun hc2 => ?_)
    · obtain ⟨n1, n2⟩ := no (fun hh => by have := hh.2 x hxm; omega)
      rw [n1, n2]
      repeat (first | refine Plan.assign rfl rfl rfl rfl ?_ | refine J.seq (J.region mixed hI (by kernel_rfl) ?_))
      exact J.ret (Nrm.ret2 rfl (fun _ h => h) fun B hB => ⟨_, rfl, Ress.cons rfl (by exact Sub.nilOwn (fun _ h => Nat.le_trans hB h.size)) (Ress.cons rfl (by exact Sub.refl _) Ress.nil)⟩)
    repeat (first | refine Plan.move rfl rfl rfl rfl ?_ | refine J.seq (J.region mixed hI (by kernel_rfl) ?_) | refine J.skip ?_)
    refine Plan.indexAddr (fun l : List UInt8 => [str l]) 1 ls [] rfl rfl rfl rfl (Sub.trans (Sub.old fun _ h => h) (Sub.of_eq (by rw [ss_flat]))) rfl eltS (fun _ => rfl) (by omega) (by omega) ?_
    refine Plan.load rfl rfl rfl rfl (Sub.refl _) Try.underlying9 rfl ?_
    rw [Int.toNat_natCast, ← hx]
    refine Plan.convSB rfl rfl rfl rfl Try.underlying9 Try.underlying27 Try.underlying5 (by omega) ?_
    refine Plan.call (B := w0.heap.size) rfl rfl rfl (frame_PutOk x (by omega)) Try.func25 rfl rfl (hBb w0) (by repeat (first | exact Opnds.nil | refine Opnds.cons rfl (by exact Sub.refl _) ?_)) ?_
    repeat (first | refine Plan.move rfl rfl rfl rfl ?_ | refine Plan.assign rfl rfl rfl rfl ?_ | refine Plan.extract rfl rfl rfl rfl rfl ?_ | (refine Plan.ints rfl rfl rfl rfl rfl rfl ?_; (skip)) | refine J.region mixed hI (by kernel_rfl) ?_ | refine J.seq (J.seq (J.region mixed hI (by kernel_rfl) ?_)) | refine J.condF rfl ?_ | refine J.skip ?_)
    refine Plan.append (news := bs (fPut x)) rfl rfl rfl rfl (Sub.refl _) rfl Sub.own eltB (by intro d hd; cases hd; decide) (hGb w0) (bs_one _) (by simp only [bs_length, fPut_length]; omega) ?_
    rw [← bs_append]
    repeat (first | refine Plan.move rfl rfl rfl rfl ?_ | refine Plan.assign rfl rfl rfl rfl ?_ | (refine Plan.ints rfl rfl rfl rfl rfl rfl ?_; (refine Plan.int (i64r (by omega)) ?_)) | refine J.region mixed hI (by kernel_rfl) ?_)
    refine Nrm.next (i + 1) ⟨hlt, ?_⟩ (by omega) (Weak.cons rfl (Sub.refl _) (Weak.cons rfl (Sub.of_eq ?_) (Weak.cons rfl (Sub.refl _) (Weak.cons rfl (Sub.refl _) Weak.nil))))
    · intro y hy
      rw [hst] at hy
      rcases List.mem_append.1 hy with hy | hy
      · exact hsm y hy
      · rw [List.mem_singleton.1 hy]; omega
    · rw [hst, frames_append, frames_cons]; simp [frames]
  · have hie : i = ls.length := by omega
    rw [hie, List.take_length] at hsm
    have h1 : laidOk ls = true := decide_eq_true ⟨by omega, hsm⟩
    have h2 : laidB ls = frames ls := by unfold laidB; rw [if_pos h1]
    rw [h1, h2]
    refine J.exit ?_
    refine Nrm.weak [(4, ownB w0.heap.size (frames ls))] (Weak.cons rfl (Sub.of_eq (by rw [hie, List.take_length])) Weak.nil) ?_
    repeat (first | refine Plan.move rfl rfl rfl rfl ?_ | refine Plan.assign rfl rfl rfl rfl ?_ | refine J.seq (J.region mixed hI (by kernel_rfl) ?_))
    exact J.ret (Nrm.ret2 rfl (fun _ h => h) fun B hB => ⟨_, rfl, Ress.cons rfl (by exact Sub.ownLower hB) (Ress.cons rfl (by exact Sub.refl _) Ress.nil)⟩)

/-- What isn't taken stops a scan; whole frames ahead of it are told. -/
theorem fTake_at (pre r : List UInt8) : fTake (pre ++ r) (pre.length : Nat) = if (fTake0 r).2.2 = 0 then ((fTake0 r).1, pre.length + (fTake0 r).2.1, 0) else ([], 0, (fTake0 r).2.2) := by
  unfold fTake
  rw [if_neg (by rw [List.length_append]; omega), Int.toNat_natCast, List.drop_left]
theorem scan_frames (r : List UInt8) (hr : (fTake0 r).2.2 ≠ 0) : ∀ (ls : List (List UInt8)) (pre : List UInt8), (∀ x ∈ ls, x.length ≤ 65529) →
    scanL (pre ++ frames ls ++ r) pre.length = (ls, (pre ++ frames ls).length)
  | [], pre, _ => by
    simp only [frames, List.flatMap_nil, List.append_nil]
    refine scanL_stop fun h => ?_
    have := h.2
    rw [fTake_at, if_neg hr] at this
    exact hr this
  | x :: ls, pre, hx => by
    have h1 := hx x List.mem_cons_self
    have h0 := fTake0_put x (frames ls ++ r) h1
    have e : pre ++ frames (x :: ls) ++ r = pre ++ (fPut x ++ (frames ls ++ r)) := by rw [frames_cons]; simp
    have e2 : pre ++ frames (x :: ls) ++ r = (pre ++ fPut x) ++ frames ls ++ r := by rw [frames_cons]; simp
    have ht : fTake (pre ++ frames (x :: ls) ++ r) (pre.length : Nat) = (x, (pre ++ fPut x).length, 0) := by
      rw [e, fTake_at, h0]; simp [fPut_length]
    have hlt : pre.length < (pre ++ frames (x :: ls) ++ r).length := by rw [e]; simp only [List.length_append, fPut_length]; omega
    rw [scanL_go hlt (by rw [ht]), ht]
    dsimp only
    have ih := scan_frames r hr ls (pre ++ fPut x) fun y hy => hx y (List.mem_cons_of_mem _ hy)
    rw [e2, ih, frames_cons, List.append_assoc]
theorem fTake0_nil : (fTake0 []).2.2 ≠ 0 := by decide
theorem scan_all (ls : List (List UInt8)) (h : ∀ x ∈ ls, x.length ≤ 65529) : scanL (frames ls) 0 = (ls, (frames ls).length) := by
  have := scan_frames [] fTake0_nil ls [] h
  simpa using this
end Go.Proofs.Ytdfdhhepbkejpaa
