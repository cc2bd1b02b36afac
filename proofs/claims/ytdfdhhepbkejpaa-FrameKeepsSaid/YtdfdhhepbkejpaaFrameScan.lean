/-
  Scanning: the plain function, and that frame.Scan and its reference return what it says; the law's own texts.
-/
import Derived.Test.YtdfdhhepbkejpaaFrameRef
import Derived.Test.YtdfdhhepbkejpaaFrameLaws
import Derived.Test.YtdfdhhepbkejpaaFreeNest
set_option linter.unusedSimpArgs false
set_option linter.unusedVariables false
namespace Go.Proofs.Ytdfdhhepbkejpaa
open Go.Free Go.RowKit Go.Proofs
set_option maxHeartbeats 2000000

theorem fTake_bd (l : List UInt8) (p : Int) (h : (fTake l p).2.2 = 0) : p < (fTake l p).2.1 ∧ (fTake l p).2.1 ≤ l.length := by
  unfold fTake at h ⊢
  by_cases g : p < 0 ∨ (l.length : Int) < p
  · rw [if_pos g] at h; simp at h
  · rw [if_neg g] at h ⊢
    by_cases g2 : (fTake0 (l.drop p.toNat)).2.2 = 0
    · rw [if_pos g2]
      have hb : 0 < (fTake0 (l.drop p.toNat)).2.1 ∧ (fTake0 (l.drop p.toNat)).2.1 ≤ (l.drop p.toNat).length := by
        unfold fTake0 at g2 ⊢
        split at g2
        · simp at g2
        rename_i k1; rw [if_neg k1]
        split at g2
        · simp at g2
        rename_i k2; rw [if_neg k2]
        split at g2
        · simp at g2
        rename_i k3; rw [if_neg k3]
        split at g2
        · simp at g2
        rename_i k4; rw [if_neg k4]
        split at g2
        · simp at g2
        rename_i k5; rw [if_neg k5]
        dsimp only
        omega
      rw [List.length_drop] at hb
      dsimp only
      omega
    · rw [if_neg g2] at h; exact absurd h g2
/-- The bodies from a place on, the place behind. -/
def scanL (l : List UInt8) (at_ : Nat) : List (List UInt8) × Nat :=
  if _h : at_ < l.length ∧ (fTake l at_).2.2 = 0 then
    ((fTake l at_).1 :: (scanL l (fTake l at_).2.1).1, (scanL l (fTake l at_).2.1).2)
  else ([], at_)
termination_by l.length - at_
decreasing_by
  all_goals
    have := fTake_bd l at_ _h.2
    omega
theorem scanL_go {l : List UInt8} {p : Nat} (h : p < l.length) (h2 : (fTake l p).2.2 = 0) : scanL l p = ((fTake l p).1 :: (scanL l (fTake l p).2.1).1, (scanL l (fTake l p).2.1).2) := by
  rw [scanL]; simp [h, h2]
theorem scanL_stop {l : List UInt8} {p : Nat} (h : ¬ (p < l.length ∧ (fTake l p).2.2 = 0)) : scanL l p = ([], p) := by
  rw [scanL]; simp only [h, dite_false]
theorem scanL_le (l : List UInt8) : ∀ (k p : Nat), l.length - p = k → p ≤ l.length → (scanL l p).2 ≤ l.length ∧ (scanL l p).1.length + p ≤ l.length := by
  intro k
  induction k using Nat.strongRecOn with
  | _ k ih =>
    intro p hk hp
    by_cases h : p < l.length ∧ (fTake l p).2.2 = 0
    · have hb := fTake_bd l p h.2
      have := ih (l.length - (fTake l p).2.1) (by omega) (fTake l p).2.1 rfl (by omega)
      rw [scanL_go h.1 h.2]
      simp only [List.length_cons]
      omega
    · rw [scanL_stop h]; simp; omega

theorem eltBB : Elt Try.prog 45 27 (.slice none 0 0) 1 24 := Elt.mk' Try.underlying45 (by kernel_rfl) rfl (by decide) (by decide)
theorem eltS : Elt Try.prog 48 9 (.string ByteArray.empty) 1 16 := Elt.mk' Try.underlying48 (by kernel_rfl) rfl (by decide) (by decide)
abbrev nestB (B : Nat) (ls : List (List UInt8)) : Fa := nest B 27 (ls.map (ownB B))
def ss (ls : List (List UInt8)) : List Value := ls.map str

def scE (w0 : World) (l : List UInt8) (s : List (List UInt8) × Nat) : Env := [(0, .old w0 (bytesF l)), (5, nestB w0.heap.size s.1), (6, .ex (.int .i64 s.2))]
def scOk (l : List UInt8) (s : List (List UInt8) × Nat) : Prop := s.2 ≤ l.length ∧ s.1.length ≤ s.2 ∧ scanL l 0 = (s.1 ++ (scanL l s.2).1, (scanL l s.2).2)

theorem frame_Scan (l : List UInt8) (hl : l.length ≤ 1000000) :
    Spc Try.prog 29 [bytesF l] fun B => .tup [nestB B (scanL l 0).1, .ex (.int .i64 (scanL l 0).2), .ex (.bool (((scanL l 0).2 : Int) == l.length))] := by
  refine Spc.intro Try.func29 rfl (Nat.le_of_ble_eq_true rfl) fun w0 => ?_
  have hI := hIb w0
  repeat (first | refine Plan.assign rfl rfl rfl rfl ?_ | refine J.seq (J.region mixed hI (by kernel_rfl) ?_))
  refine J.seqMid (scE w0 l) (fun s => scOk l s ∧ scanL l s.2 = ([], s.2)) ?_ ?_
  · refine J.block (J.loop (scE w0 l) (scOk l) (fun s => l.length - s.2) ([], 0) ⟨Nat.zero_le _, Nat.zero_le _, by simp⟩ ?_ ?_)
    · exact Weak.cons rfl (Sub.refl _) (Weak.cons rfl (Sub.nestNil (hBb w0)) (Weak.cons rfl (Sub.refl _) Weak.nil))
    rintro ⟨ls, p⟩ ⟨h1, h2, h3⟩
    dsimp only at h1 h2 h3
    repeat (first | refine Plan.move rfl rfl rfl rfl ?_ | (refine Plan.ints rfl rfl rfl rfl rfl rfl ?_; (skip)) | refine Plan.lenB rfl rfl rfl rfl (by exact Sub.old (fun _ h => h)) Try.underlying27 ?_ | refine J.seq (J.seq (J.region mixed hI (by kernel_rfl) ?_)))
    refine J.condD rfl (fun hc => ?_) (fun hc => ?_)
    · repeat (refine J.skip ?_)
      refine J.block ?_
      repeat (first | refine Plan.move rfl rfl rfl rfl ?_ | refine J.seq (J.region mixed hI (by kernel_rfl) ?_))
      refine Plan.call (B := w0.heap.size) rfl rfl rfl (frame_Take l p (by omega) (by omega)) Try.func27 rfl rfl (hBb w0) (by repeat (first | exact Opnds.nil | refine Opnds.cons rfl (by first | exact Sub.refl _ | exact Sub.old (fun _ h => h)) ?_)) ?_
      repeat (first | refine Plan.move rfl rfl rfl rfl ?_ | refine Plan.assign rfl rfl rfl rfl ?_ | refine Plan.extract rfl rfl rfl rfl rfl ?_ | (refine Plan.ints rfl rfl rfl rfl rfl rfl ?_; (skip)) | refine J.seq (J.seq (J.region mixed hI (by kernel_rfl) ?_)))
      refine J.condN rfl (fun he => ?_) (fun he => ?_)
      · refine J.exit ?_
        have hno : ¬ (p < l.length ∧ (fTake l p).2.2 = 0) := by omega
        exact Nrm.mid (ls, p) ⟨⟨h1, h2, h3⟩, scanL_stop hno⟩ (by repeat (first | exact Weak.nil | refine Weak.cons rfl (Sub.refl _) ?_))
      · have hgo := scanL_go (l := l) (p := p) (by omega) (by omega)
        have hb := fTake_bd l p (by omega)
        refine J.skip ?_
        refine J.nameOwn (t := 7) (key := 100) rfl (Sub.refl _) fun u hu1 hu2 hu3 => ?_
        repeat (first | refine Plan.move rfl rfl rfl rfl ?_ | refine J.seq (J.region mixed hI (by kernel_rfl) ?_))
        refine Plan.lit (B := w0.heap.size) rfl rfl rfl eltBB rfl (hBb w0) rfl hu3 (by decide) ?_
        rw [hu2]
        refine Plan.appendNest (key := 100) rfl rfl rfl rfl (Sub.refl _) rfl Sub.own rfl hu1 eltBB (by intro d hd; cases hd; decide) (hGb w0) (by rw [List.length_map]; dsimp only; omega) (fun g hg => ?_) ?_
        · rcases List.mem_append.1 hg with hg | hg
          · obtain ⟨x, _, rfl⟩ := List.mem_map.1 hg
            exact Apart.own (by decide)
          · rw [List.mem_singleton.1 hg]; exact Apart.own (by decide)
        repeat (first | refine Plan.move rfl rfl rfl rfl ?_ | refine Plan.assign rfl rfl rfl rfl ?_ | refine J.region mixed hI (by kernel_rfl) ?_)
        refine Nrm.next (ls ++ [(fTake l p).1], (fTake l p).2.1) ⟨?_, ?_, ?_⟩ (by dsimp only; omega) ?_
        · dsimp only; omega
        · dsimp only; rw [List.length_append, List.length_singleton]; omega
        · dsimp only; rw [h3, hgo]; simp
        · exact Weak.cons rfl (Sub.refl _) (Weak.cons rfl (Sub.of_eq (by simp only [nestB, List.map_append, List.map_cons, List.map_nil])) (Weak.cons rfl (Sub.refl _) Weak.nil))
    · refine J.exit ?_
      have hno : ¬ (p < l.length ∧ (fTake l p).2.2 = 0) := by omega
      exact Nrm.mid (ls, p) ⟨⟨h1, h2, h3⟩, scanL_stop hno⟩ (by repeat (first | exact Weak.nil | refine Weak.cons rfl (Sub.refl _) ?_))
  rintro ⟨ls, p⟩ ⟨⟨h1, h2, h3⟩, h4⟩
  dsimp only at h1 h2 h3 h4
  rw [h4, List.append_nil] at h3
  rw [h3]
  repeat (first | refine Plan.move rfl rfl rfl rfl ?_ | refine Plan.assign rfl rfl rfl rfl ?_ | (refine Plan.ints rfl rfl rfl rfl rfl rfl ?_; (skip)) | refine Plan.lenB rfl rfl rfl rfl (by exact Sub.old (fun _ h => h)) Try.underlying27 ?_ | refine J.seq (J.region mixed hI (by kernel_rfl) ?_))
  refine J.ret (Nrm.ret3 rfl (fun _ h => h) fun B hB => ⟨_, rfl, Ress.cons rfl (Sub.nestLower hB fun _ => Sub.ownLower hB) (Ress.cons rfl (Sub.refl _) (Ress.cons rfl (Sub.refl _) Ress.nil))⟩)
theorem ss_snoc (ls : List (List UInt8)) (l : List UInt8) : ss (ls ++ [l]) = ss ls ++ [str l] := by simp [ss]
theorem ss_one (ls : List (List UInt8)) : ∀ u ∈ ss ls, u.oneCell' = true := by
  intro u hu
  simp only [ss, List.mem_map] at hu
  obtain ⟨l, _, rfl⟩ := hu
  rfl
theorem ss_length (ls : List (List UInt8)) : (ss ls).length = ls.length := by simp [ss]
theorem ss_flat (ls : List (List UInt8)) : ss ls = ls.flatMap fun l => [str l] := by
  unfold ss
  induction ls with
  | nil => rfl
  | cons a ls ih => simp [ih]
abbrev ownS (B : Nat) (ls : List (List UInt8)) : Fa := own B 9 1 (ss ls)

def scES (w0 : World) (l : List UInt8) (s : List (List UInt8) × Nat) : Env := [(0, .ex (str l)), (5, ownS w0.heap.size s.1), (6, .ex (.int .i64 s.2))]
theorem ref_Scan (l : List UInt8) (hl : l.length ≤ 1000000) :
    Spc Try.prog 30 [.ex (str l)] fun B => .tup [ownS B (scanL l 0).1, .ex (.int .i64 (scanL l 0).2), .ex (.bool (((scanL l 0).2 : Int) == l.length))] := by
  refine Spc.intro Try.func30 rfl (Nat.le_of_ble_eq_true rfl) fun w0 => ?_
  have hI := hIb w0
  repeat (first | refine Plan.assign rfl rfl rfl rfl ?_ | refine J.seq (J.region mixed hI (by kernel_rfl) ?_))
  refine J.seqMid (scES w0 l) (fun s => scOk l s ∧ scanL l s.2 = ([], s.2)) ?_ ?_
  · refine J.block (J.loop (scES w0 l) (scOk l) (fun s => l.length - s.2) ([], 0) ⟨Nat.zero_le _, Nat.zero_le _, by simp⟩ ?_ ?_)
    · exact Weak.cons rfl (Sub.refl _) (Weak.cons rfl (Sub.nilOwn (hBb w0)) (Weak.cons rfl (Sub.refl _) Weak.nil))
    rintro ⟨ls, p⟩ ⟨h1, h2, h3⟩
    dsimp only at h1 h2 h3
    repeat (first | refine Plan.move rfl rfl rfl rfl ?_ | refine Plan.lenStr rfl rfl rfl rfl Try.underlying9 ?_ | (refine Plan.ints rfl rfl rfl rfl rfl rfl ?_; (skip)) | refine J.seq (J.seq (J.region mixed hI (by kernel_rfl) ?_)))
    refine J.condD rfl (fun hc => ?_) (fun hc => ?_)
    · repeat (refine J.skip ?_)
      refine J.block ?_
      repeat (first | refine Plan.move rfl rfl rfl rfl ?_ | refine J.seq (J.region mixed hI (by kernel_rfl) ?_))
      refine Plan.call (B := w0.heap.size) rfl rfl rfl (ref_FTake l p (by omega) (by omega)) Try.func28 rfl rfl (hBb w0) (by repeat (first | exact Opnds.nil | refine Opnds.cons rfl (by exact Sub.refl _) ?_)) ?_
      repeat (first | refine Plan.move rfl rfl rfl rfl ?_ | refine Plan.assign rfl rfl rfl rfl ?_ | refine Plan.extract rfl rfl rfl rfl rfl ?_ | (refine Plan.ints rfl rfl rfl rfl rfl rfl ?_; (skip)) | refine J.seq (J.seq (J.region mixed hI (by kernel_rfl) ?_)))
      refine J.condN rfl (fun he => ?_) (fun he => ?_)
      · refine J.exit ?_
        have hno : ¬ (p < l.length ∧ (fTake l p).2.2 = 0) := by omega
        exact Nrm.mid (ls, p) ⟨⟨h1, h2, h3⟩, scanL_stop hno⟩ (by repeat (first | exact Weak.nil | refine Weak.cons rfl (Sub.refl _) ?_))
      · have hgo := scanL_go (l := l) (p := p) (by omega) (by omega)
        have hb := fTake_bd l p (by omega)
        repeat (first | refine Plan.move rfl rfl rfl rfl ?_ | refine J.seq (J.region mixed hI (by kernel_rfl) ?_) | refine J.skip ?_)
        refine Plan.lit (B := w0.heap.size) rfl rfl rfl eltS rfl (hBb w0) rfl (by simp [Value.cells, str]) (by decide) ?_
        refine Plan.append (news := [str (fTake l p).1]) rfl rfl rfl rfl (Sub.refl _) rfl Sub.own eltS (by intro d hd; cases hd; decide) (hGb w0) (by simp [str, Value.oneCell']) (by rw [ss_length]; dsimp only [List.length_singleton]; omega) ?_
        rw [← ss_snoc]
        repeat (first | refine Plan.move rfl rfl rfl rfl ?_ | refine Plan.assign rfl rfl rfl rfl ?_ | refine J.region mixed hI (by kernel_rfl) ?_)
        refine Nrm.next (ls ++ [(fTake l p).1], (fTake l p).2.1) ⟨?_, ?_, ?_⟩ (by dsimp only; omega) (by repeat (first | exact Weak.nil | refine Weak.cons rfl (Sub.refl _) ?_))
        · dsimp only; omega
        · dsimp only; rw [List.length_append, List.length_singleton]; omega
        · dsimp only; rw [h3, hgo]; simp
    · refine J.exit ?_
      have hno : ¬ (p < l.length ∧ (fTake l p).2.2 = 0) := by omega
      exact Nrm.mid (ls, p) ⟨⟨h1, h2, h3⟩, scanL_stop hno⟩ (by repeat (first | exact Weak.nil | refine Weak.cons rfl (Sub.refl _) ?_))
  rintro ⟨ls, p⟩ ⟨⟨h1, h2, h3⟩, h4⟩
  dsimp only at h1 h2 h3 h4
  rw [h4, List.append_nil] at h3
  rw [h3]
  repeat (first | refine Plan.move rfl rfl rfl rfl ?_ | refine Plan.assign rfl rfl rfl rfl ?_ | refine Plan.lenStr rfl rfl rfl rfl Try.underlying9 ?_ | (refine Plan.ints rfl rfl rfl rfl rfl rfl ?_; (skip)) | refine J.seq (J.region mixed hI (by kernel_rfl) ?_))
  refine J.ret (Nrm.ret3 rfl (fun _ h => h) fun B hB => ⟨_, rfl, Ress.cons rfl (Sub.ownLower hB) (Ress.cons rfl (Sub.refl _) (Ress.cons rfl (Sub.refl _) Ress.nil))⟩)
end Go.Proofs.Ytdfdhhepbkejpaa
