/-
  The law's own texts; the law FrameTakes returns true for all arguments.
-/
import Derived.Test.YtdfdhhepbkejpaaFrameScan
set_option linter.unusedSimpArgs false
set_option linter.unusedVariables false
namespace Go.Proofs.Ytdfdhhepbkejpaa
open Go.Free Go.RowKit Go.Proofs
set_option maxHeartbeats 2000000

def txE (w0 : World) (ls ms : List (List UInt8)) (i : Nat) : Env :=
  [(0, .old w0 (nestR (ls.map bytesF))), (1, .old w0 (row 1 (ss ms))), (12, .ex (.int .i64 ls.length)), (13, .ex (.int .i64 i))]

theorem law_texts (ls ms : List (List UInt8)) (hl : ls.length ≤ 9223372036854775807) (hm : ms.length ≤ 9223372036854775807) : Spc Try.prog 31 [nestR (ls.map bytesF), row 1 (ss ms)] fun _ => .ex (.bool (decide (ls = ms))) := by
  refine Spc.intro Try.func31 rfl (Nat.le_of_ble_eq_true rfl) fun w0 => ?_
  have hI := hIb w0
  repeat (first | refine Plan.move rfl rfl rfl rfl ?_ | refine Plan.assign rfl rfl rfl rfl ?_ | refine J.seq (J.region mixed hI (by kernel_rfl) ?_) | refine J.seq (J.seq (J.region mixed hI (by kernel_rfl) ?_)))
  refine Plan.lenNest rfl rfl rfl rfl (Sub.old fun _ h => h) Try.underlying45 ?_
  repeat (refine Plan.move rfl rfl rfl rfl ?_)
  refine Plan.lenRow (m := ms.length) rfl rfl rfl rfl (Sub.old fun _ h => h) Try.underlying48 (by rw [ss_length]; omega) (by decide) ?_
  repeat ((refine Plan.ints rfl rfl rfl rfl rfl rfl ?_; (skip)))
  refine J.condN rfl (fun hc => ?_) (fun hc => ?_)
  · rw [List.length_map] at hc
    have hv : ¬ ls = ms := by rintro rfl; exact hc rfl
    rw [decide_eq_false hv]
    repeat (first | refine Plan.assign rfl rfl rfl rfl ?_ | refine J.seq (J.region mixed hI (by kernel_rfl) ?_))
    exact J.ret (Nrm.ret1 rfl (fun _ h => h) rfl fun B _ => Sub.refl _)
  rw [List.length_map] at hc
  have hlen : ls.length = ms.length := by omega
  repeat (first | refine Plan.move rfl rfl rfl rfl ?_ | refine J.seq (J.seq (J.region mixed hI (by kernel_rfl) ?_)) | refine J.skip ?_)
  refine Plan.lenNest rfl rfl rfl rfl (Sub.old fun _ h => h) Try.underlying45 ?_
  rw [List.length_map]
  repeat (refine Plan.move rfl rfl rfl rfl ?_)
  refine J.block (J.loop (txE w0 ls ms) (fun i => i ≤ ls.length ∧ ls.take i = ms.take i) (fun i => ls.length - i) 0 ⟨Nat.zero_le _, by simp⟩ ?_ ?_)
  · repeat (first | exact Weak.nil | refine Weak.cons rfl (Sub.refl _) ?_)
  rintro i ⟨hi, heq⟩
  repeat (first | (refine Plan.ints rfl rfl rfl rfl rfl rfl ?_; (skip)) | refine J.seq (J.region mixed hI (by kernel_rfl) ?_))
  refine J.seq (J.condD rfl (fun hc => ?_) (fun hc => ?_))
  · have hlt : i < ls.length := by omega
    repeat (refine J.skip ?_)
    refine J.seq (J.block ?_)
    repeat (first | refine Plan.move rfl rfl rfl rfl ?_ | refine Plan.assign rfl rfl rfl rfl ?_ | refine J.seq (J.region mixed hI (by kernel_rfl) ?_))
    refine Plan.indexNest (q := i) (f := bytesF (ls.getD i [])) rfl rfl rfl rfl (Sub.old fun _ h => h) rfl eltBB (by rw [List.getElem?_map, List.getD_eq_getElem?_getD, List.getElem?_eq_getElem hlt]; rfl) ?_
    refine Plan.loadNest rfl rfl rfl rfl (Sub.refl _) Try.underlying27 rfl ?_
    refine Plan.convBS (p := ls.getD i []) rfl rfl rfl rfl (Sub.refl _) Try.underlying27 Try.underlying9 Try.underlying5 ?_
    repeat (refine Plan.move rfl rfl rfl rfl ?_)
    refine Plan.indexAddr (fun l : List UInt8 => [str l]) 1 ms [] rfl rfl rfl rfl (Sub.trans (Sub.old fun _ h => h) (Sub.of_eq (by rw [ss_flat]))) rfl eltS (fun _ => rfl) (by omega) (by omega) ?_
    refine Plan.load rfl rfl rfl rfl (Sub.refl _) Try.underlying9 rfl ?_
    rw [Int.toNat_natCast]
    refine Plan.strs rfl rfl rfl rfl rfl rfl ?_
    repeat (fail)
    have h1 : ls.take (i + 1) = ls.take i ++ [ls.getD i []] := by
      rw [List.take_add_one, List.getElem?_eq_getElem hlt]; simp [List.getD_eq_getElem?_getD, List.getElem?_eq_getElem hlt]
    have hlt' : i < ms.length := by omega
    have h2 : ms.take (i + 1) = ms.take i ++ [ms.getD i []] := by
      rw [List.take_add_one, List.getElem?_eq_getElem hlt']; simp [List.getD_eq_getElem?_getD, List.getElem?_eq_getElem hlt']
    refine J.cond rfl (fun he => ?_) (fun he => ?_)
    · have hne : ls.getD i [] ≠ ms.getD i [] := by simpa using he
      have hv : ¬ ls = ms := by rintro rfl; exact hne rfl
      rw [decide_eq_false hv]
      repeat (first | refine Plan.assign rfl rfl rfl rfl ?_ | refine J.seq (J.region mixed hI (by kernel_rfl) ?_))
      exact J.ret (Nrm.ret1 rfl (fun _ h => h) rfl fun B _ => Sub.refl _)
    · have hee : ls.getD i [] = ms.getD i [] := by simpa using he
      repeat (first | refine Plan.move rfl rfl rfl rfl ?_ | (refine Plan.ints rfl rfl rfl rfl rfl rfl ?_; (refine Plan.int (i64r (by omega)) ?_)) | refine J.region mixed hI (by kernel_rfl) ?_ | refine J.skip ?_)
      exact Nrm.next (i + 1) ⟨hlt, by rw [h1, h2, heq, hee]⟩ (by omega) (by repeat (first | exact Weak.nil | refine Weak.cons rfl (Sub.refl _) ?_))
  · have hie : i = ls.length := by omega
    have hv : ls = ms := by
      rw [hie, List.take_length, hlen, List.take_length] at heq; exact heq
    rw [decide_eq_true hv]
    refine J.exit ?_
    repeat (first | refine Plan.assign rfl rfl rfl rfl ?_ | refine J.seq (J.region mixed hI (by kernel_rfl) ?_))
    exact J.ret (Nrm.ret1 rfl (fun _ h => h) rfl fun B _ => Sub.refl _)

theorem lawFTakes (b : List UInt8) (p : Int) (hb : b.length ≤ 9223372036854775807) (hp : -9223372036854775808 ≤ p ∧ p ≤ 9223372036854775807) : Spc Try.prog 8 [.ex (str b), .ex (.int .i64 p)] fun _ => .ex (.bool true) := by
  refine Spc.intro Try.func8 rfl (Nat.le_of_ble_eq_true rfl) fun w0 => ?_
  have hI := hIb w0
  repeat (first | refine Plan.assign rfl rfl rfl rfl ?_ | refine J.seq (J.region mixed hI (by kernel_rfl) ?_) | refine J.seq (J.seq (J.region mixed hI (by kernel_rfl) ?_)))
  refine Plan.call (B := w0.heap.size) rfl rfl rfl (awakeF) Try.func24 rfl rfl (hBb w0) (by repeat (exact Opnds.nil)) ?_
  repeat (first | refine Plan.move rfl rfl rfl rfl ?_ | refine Plan.pick rfl rfl rfl rfl rfl ?_ | refine Plan.lenStr rfl rfl rfl rfl Try.underlying9 ?_ | (refine Plan.ints rfl rfl rfl rfl rfl rfl ?_; (skip)) | refine Plan.un rfl rfl rfl rfl rfl ?_)
  refine J.condD rfl (fun h => ?_) (fun h => ?_)
  · repeat (refine J.seq (J.region mixed hI (by kernel_rfl) ?_))
    refine Plan.call (B := w0.heap.size) rfl rfl rfl (awakeF) Try.func24 rfl rfl (hBb w0) (by repeat (exact Opnds.nil)) ?_
    repeat (refine Plan.assign rfl rfl rfl rfl ?_)
    exact J.ret (Nrm.ret1 rfl (fun _ h => h) rfl fun B _ => Sub.refl _)
  repeat (first | refine Plan.move rfl rfl rfl rfl ?_ | refine J.seq (J.region mixed hI (by kernel_rfl) ?_) | refine J.skip ?_)
  refine Plan.convSB rfl rfl rfl rfl Try.underlying9 Try.underlying27 Try.underlying5 hb ?_
  repeat (refine Plan.move rfl rfl rfl rfl ?_)
  refine Plan.call (B := w0.heap.size) rfl rfl rfl (frame_Take b p hp (by omega)) Try.func27 rfl rfl (hBb w0) (by repeat (first | exact Opnds.nil | refine Opnds.cons rfl (by exact Sub.refl _) ?_)) ?_
  repeat (first | refine Plan.move rfl rfl rfl rfl ?_ | refine Plan.assign rfl rfl rfl rfl ?_ | refine Plan.extract rfl rfl rfl rfl rfl ?_ | refine J.seq (J.region mixed hI (by kernel_rfl) ?_))
  refine Plan.call (B := w0.heap.size) rfl rfl rfl (ref_FTake b p hp (by omega)) Try.func28 rfl rfl (hBb w0) (by repeat (first | exact Opnds.nil | refine Opnds.cons rfl (by exact Sub.refl _) ?_)) ?_
  repeat (first | refine Plan.move rfl rfl rfl rfl ?_ | refine Plan.assign rfl rfl rfl rfl ?_ | refine Plan.extract rfl rfl rfl rfl rfl ?_ | refine J.seq (J.region mixed hI (by kernel_rfl) ?_))
  refine Plan.convSB rfl rfl rfl rfl Try.underlying9 Try.underlying27 Try.underlying5 hb ?_
  refine Plan.call (B := w0.heap.size) rfl rfl rfl (frame_Scan b (by omega)) Try.func29 rfl rfl (hBb w0) (by repeat (first | exact Opnds.nil | refine Opnds.cons rfl (by exact Sub.refl _) ?_)) ?_
  repeat (first | refine Plan.move rfl rfl rfl rfl ?_ | refine Plan.assign rfl rfl rfl rfl ?_ | refine Plan.extract rfl rfl rfl rfl rfl ?_ | refine J.seq (J.region mixed hI (by kernel_rfl) ?_))
  refine Plan.call (B := w0.heap.size) rfl rfl rfl (ref_Scan b (by omega)) Try.func30 rfl rfl (hBb w0) (by repeat (first | exact Opnds.nil | refine Opnds.cons rfl (by exact Sub.refl _) ?_)) ?_
  repeat (first | refine Plan.move rfl rfl rfl rfl ?_ | refine Plan.assign rfl rfl rfl rfl ?_ | refine Plan.extract rfl rfl rfl rfl rfl ?_ | refine J.seq (J.region mixed hI (by kernel_rfl) ?_))
  have hsc := (scanL_le b b.length 0 (by omega) (by omega)).2
  refine Plan.convBS (p := (fTake b p).1) rfl rfl rfl rfl Sub.own Try.underlying27 Try.underlying9 Try.underlying5 ?_
  repeat (refine Plan.move rfl rfl rfl rfl ?_)
  refine Plan.strs rfl rfl rfl rfl rfl rfl ?_
  refine Plan.eqT rfl ?_
  repeat (first | refine Plan.move rfl rfl rfl rfl ?_ | refine Plan.pick rfl rfl rfl rfl rfl ?_ | (refine Plan.ints rfl rfl rfl rfl rfl rfl ?_; (skip)))
  refine Plan.eqT rfl ?_
  repeat (first | refine Plan.move rfl rfl rfl rfl ?_ | refine Plan.pick rfl rfl rfl rfl rfl ?_ | (refine Plan.ints rfl rfl rfl rfl rfl rfl ?_; (skip)))
  refine Plan.eqT rfl ?_
  repeat (refine Plan.move rfl rfl rfl rfl ?_)
  refine Plan.call (B := w0.heap.size) rfl rfl rfl (law_texts (scanL b 0).1 (scanL b 0).1 (by omega) (by omega)) Try.func31 rfl rfl (hBb w0) (Opnds.cons rfl (Sub.trans Sub.nestRead (Sub.nestMap fun _ => Sub.own)) (Opnds.cons rfl Sub.own Opnds.nil)) ?_
  refine Plan.isT rfl ?_
  repeat (first | refine Plan.move rfl rfl rfl rfl ?_ | refine Plan.pick rfl rfl rfl rfl rfl ?_ | (refine Plan.ints rfl rfl rfl rfl rfl rfl ?_; (skip)))
  refine Plan.eqT rfl ?_
  repeat (refine Plan.move rfl rfl rfl rfl ?_)
  refine Plan.bools (r := true) rfl rfl rfl rfl rfl Try.underlying4 (.inl ⟨rfl, by simp⟩) ?_
  repeat (first | refine Plan.assign rfl rfl rfl rfl ?_ | refine Plan.pick rfl rfl rfl rfl rfl ?_)
  exact J.ret (Nrm.ret1 rfl (fun _ h => h) rfl fun B _ => Sub.refl _)
end Go.Proofs.Ytdfdhhepbkejpaa
