/-
  Laid together: SortXMergeB, SortXMergeC, SortXStable, RgaDots, RgaTree, BagPlain, BagPlain2, TopPlain, TopPlain2, FreeOld, RgaCmp, RgaEnds, RgaDel.
-/
import Derived.Test.YtmljgobenlpnfaaGreatTLPG
set_option linter.unusedSimpArgs false
set_option linter.unusedVariables false
set_option maxRecDepth 20000

section
namespace Go.Proofs.YtmljgobenlpnfaaGreat
open Go.Free Go.RowKit Go.Proofs Go.Free.Sorts
set_option maxHeartbeats 8000000
def scX (es : List EvV) (F : Nat → Prop) (w0 : World) (g n cap m : Nat) (cmp : Value) (cN : Chunk) (f : Nat → Nat) (s : Nat × Nat) : Env :=
  [(0, .ex (slI g n cap)), (2, .ex (vi m)), (4, .ex cmp), (14, .ex (vi s.1)), (15, .ex (vi s.2)), (1000, heap (fun b => F b ∨ w0.heap.size ≤ b) [rowX es g n cap f, cN])]
def sdX (es : List EvV) (F : Nat → Prop) (w0 : World) (g n cap m : Nat) (cN : Chunk) (f : Nat → Nat) (i k : Nat) : Env :=
  [(0, .ex (slI g n cap)), (14, .ex (vi i)), (17, .ex (vi k)), (1000, heap (fun b => F b ∨ w0.heap.size ≤ b) [rowX es g n cap (unshF f k m), cN])]
theorem mergeBX {fid : FuncId} {caps : List Value} {cN : Chunk} {N : Nat} {R : Nat → Nat → Prop} (es : List EvV) (o : Ord R) (K : CmpX es fid caps cN N R) (g n cap a m : Nat) (f : Nat → Nat) (h1 : a < m) (h2 : a + 1 ≠ m) (h3 : m + 1 ≤ n) (hn : n ≤ 1000000) (hN : ∀ i, i < n → f i < N) (hs1 : SortedF R a m f) (hap : Apart2 a m (m + 1) f) :
    MergeSpcX es fid caps cN R g n cap a m (m + 1) f := by
  obtain ⟨fn, hfn, hfb, hfm⟩ := K.fn
  have hlt : ∀ k, a ≤ k → k < m → f k < f m := fun k p q => hap k m p q (Nat.le_refl _) (Nat.lt_succ_self m)
  refine SpcC.intro Tryz.func118 rfl (Nat.le_of_ble_eq_true rfl) fun w0 F => ?_
  have hI := kept_below F w0
  have hA := Own.kept F w0
  refine J.open1 (key := 1000) rfl ?_
  refine J.seq (J.seq (J.region mixed hI (by kernel_rfl) ?_))
  repeat (first | refine Plan.move rfl rfl rfl rfl ?_ | (refine Plan.ints rfl rfl rfl rfl rfl rfl ?_; (first | refine Plan.int (i64r (by omega)) ?_ | skip)))
  refine Plan.boolv (y := false) (by simp; omega) ?_
  refine J.condF rfl ?_
  refine J.skip ?_
  refine J.seq (J.seq (J.region mixed hI (by kernel_rfl) ?_))
  repeat (first | refine Plan.move rfl rfl rfl rfl ?_ | (refine Plan.ints rfl rfl rfl rfl rfl rfl ?_; (first | refine Plan.int (i64r (by omega)) ?_ | skip)))
  refine Plan.boolv (y := true) (by simp; omega) ?_
  refine J.condT rfl ?_
  repeat (first | refine Plan.move rfl rfl rfl rfl ?_ | refine Plan.assign rfl rfl rfl rfl ?_ | refine J.seq (J.region mixed hI (by kernel_rfl) ?_))
  refine J.seq (J.block (J.loop (scX es F w0 g n cap m (fnV fid caps) cN f) (fun s => a ≤ s.1 ∧ s.1 ≤ s.2 ∧ s.2 ≤ m ∧ (∀ k, a ≤ k → k < s.1 → R (f k) (f m)) ∧ ∀ k, s.2 ≤ k → k < m → R (f m) (f k)) (fun s => s.2 - s.1) (a, m) ⟨Nat.le_refl _, by dsimp only; omega, Nat.le_refl _, fun k p q => by dsimp only at q; omega, fun k p q => by dsimp only at p; omega⟩ ?_ ?_))
  · repeat (first | exact Weak.nil | refine Weak.cons rfl (Sub.refl _) ?_)
  rintro ⟨i, j⟩ ⟨hi, hij, hj, hlo, hhi⟩
  simp only at hi hij hj hlo hhi
  change J _ _ _ _ _ (scX es F w0 g n cap m (fnV fid caps) cN f (i, j))
  repeat (first | refine Plan.move rfl rfl rfl rfl ?_ | (refine Plan.ints rfl rfl rfl rfl rfl rfl ?_; (skip)) | refine J.seq (J.seq (J.region mixed hI (by kernel_rfl) ?_)))
  refine J.condD rfl (fun hc => ?_) (fun hc => ?_)
  · have hc' : i < j := by
      dsimp only at hc; omega
    obtain ⟨h, hh⟩ : ∃ h, h = (i + j) / 2 := ⟨_, rfl⟩
    obtain ⟨c, hcall, hcR⟩ := K.call (f m) (f h) (hN m (by omega)) (hN h (by omega))
    have hcR := hcR (hlt h (by omega) (by omega))
    refine J.skip ?_
    refine J.block ?_
    repeat (first | refine Plan.move rfl rfl rfl rfl ?_ | (refine Plan.ints rfl rfl rfl rfl rfl rfl ?_; (refine Plan.int (i64r (by omega)) ?_)) | (refine Plan.convInt rfl rfl rfl rfl (by exact Tryz.underlying3) (by first | exact Tryz.underlying3 | exact Tryz.underlying148) ?_; (refine Plan.int (u64r (by omega)) ?_)) | refine J.seq (J.region mixed hI (by kernel_rfl) ?_))
    refine Plan.int (y := ((i + j : Nat) : Int)) (by omega) ?_
    refine Plan.shrN (q := 1) rfl rfl rfl rfl rfl (by decide) ?_
    rw [show (i + j) / 2 ^ 1 = h by rw [hh]]
    repeat (first | refine Plan.move rfl rfl rfl rfl ?_ | refine Plan.assign rfl rfl rfl rfl ?_ | (refine Plan.convInt rfl rfl rfl rfl (by first | exact Tryz.underlying3 | exact Tryz.underlying148) (by exact Tryz.underlying3) ?_; (refine Plan.int (i64r (by omega)) ?_)) | refine J.seq (J.region mixed hI (by kernel_rfl) ?_))
    refine Plan.indexCX m (by omega) rfl rfl rfl rfl rfl eltE (by omega) ?_
    refine Plan.loadAggC (key := 1000) (q := 0) rfl rfl rfl rfl rfl rfl (row_reads (evF_at (by omega))) Tryz.underlying40 rfl (by rw [encE]; kernel_rfl) (by decide) ?_
    repeat (refine Plan.move rfl rfl rfl rfl ?_)
    refine Plan.indexCX h (by omega) rfl rfl rfl rfl rfl eltE (by omega) ?_
    refine Plan.loadAggC (key := 1000) (q := 0) rfl rfl rfl rfl rfl rfl (row_reads (evF_at (by omega))) Tryz.underlying40 rfl (by rw [encE]; kernel_rfl) (by decide) ?_
    repeat (fail)
    refine Plan.callFR (key := 1000) (B := 0) (fs := [.ex (aggE (es.getD (f m) ev0)), .ex (aggE (es.getD (f h) ev0))]) (caps := caps) rfl rfl rfl rfl hcall hfn hfb hfm (fun _ _ => Nat.zero_le _) (Opnds.cons rfl (Sub.refl _) (Opnds.cons rfl (Sub.refl _) Opnds.nil)) rfl (Ent.right.trans Ent.left) (by decide) ?_
    repeat (first | (refine Plan.ints rfl rfl rfl rfl rfl rfl ?_; (skip)) | refine Plan.un rfl rfl rfl rfl rfl ?_)
    refine J.condND rfl (fun hd => ?_) (fun hd => ?_)
    · have hR : R (f h) (f m) := o.not (by have := hlt h (by omega) (by omega); omega) (fun e => hd (hcR.2 e))
      repeat (first | refine Plan.move rfl rfl rfl rfl ?_ | refine Plan.assign rfl rfl rfl rfl ?_ | (refine Plan.ints rfl rfl rfl rfl rfl rfl ?_; (refine Plan.int (i64r (by omega)) ?_)) | refine J.region mixed hI (by kernel_rfl) ?_)
      refine Plan.int (y := ((h + 1 : Nat) : Int)) (by omega) ?_
      exact Nrm.next (h + 1, j) ⟨by dsimp only; omega, by dsimp only; omega, hj, fun k p q => sorted_le o hs1 p (by dsimp only at q; omega) (by omega) hR, hhi⟩ (by dsimp only; omega) (by repeat (first | exact Weak.nil | refine Weak.cons rfl (Sub.refl _) ?_))
    · repeat (first | refine Plan.move rfl rfl rfl rfl ?_ | refine Plan.assign rfl rfl rfl rfl ?_ | refine J.region mixed hI (by kernel_rfl) ?_)
      exact Nrm.next (i, h) ⟨hi, by dsimp only; omega, by dsimp only; omega, hlo, fun k p q => sorted_ge o hs1 (by omega) p q (hcR.1 hd)⟩ (by dsimp only; omega) (by repeat (first | exact Weak.nil | refine Weak.cons rfl (Sub.refl _) ?_))
  · have hije : i = j := by
      dsimp only at hc; omega
    subst hije
    refine J.exit ?_
    refine J.seq (J.seq (J.region mixed hI (by kernel_rfl) ?_))
    repeat (first | refine Plan.move rfl rfl rfl rfl ?_ | refine Plan.assign rfl rfl rfl rfl ?_)
    refine J.block (J.loop (sdX es F w0 g n cap m cN f i) (fun k => i ≤ k ∧ k ≤ m) (fun k => k) m ⟨hj, Nat.le_refl _⟩ ?_ ?_)
    · rw [sdX, unsh_zero]
      repeat (first | exact Weak.nil | refine Weak.cons rfl (Sub.refl _) ?_)
    rintro k ⟨hk1, hk2⟩
    refine J.seq (J.seq (J.region mixed hI (by kernel_rfl) ?_))
    repeat (first | refine Plan.move rfl rfl rfl rfl ?_ | (refine Plan.ints rfl rfl rfl rfl rfl rfl ?_; (skip)))
    refine J.condD rfl (fun hd => ?_) (fun hd => ?_)
    · have hki : i < k := by omega
      obtain ⟨k', rfl⟩ : ∃ k', k = k' + 1 := ⟨k - 1, by omega⟩
      refine J.skip ?_
      refine J.seq (J.block ?_)
      refine J.loose2 [(2, slI g n cap), (3, vi ((k' + 1 : Nat) : Int)), (4, vi k')] [(0, .ex (slI g n cap)), (17, .ex (vi ((k' + 1 : Nat) : Int)))] mixed hI rfl rfl rfl (by kernel_rfl) (by kernel_rfl) (by kernel_rfl) rfl rfl (fun ⟨_, _, h⟩ => h) (fun _ _ _ _ h => h) (by repeat (first | exact Weak.nil | refine Weak.cons rfl (Sub.refl _) ?_)) ?_ ?_
      · refine Gives.cons [(0, .ex (slI g n cap)), (17, .ex (vi ((k' + 1 : Nat) : Int)))] (by kernel_rfl) rfl (by kernel_rfl) (Plan.move rfl rfl rfl rfl (Plan.gives rfl)) ?_
        refine Gives.cons [(0, .ex (slI g n cap)), (17, .ex (vi ((k' + 1 : Nat) : Int)))] (by kernel_rfl) rfl (by kernel_rfl) (Plan.move rfl rfl rfl rfl (Plan.gives rfl)) ?_
        exact Gives.cons [(116, .ex (vi ((k' + 1 : Nat) : Int))), (0, .ex (slI g n cap)), (17, .ex (vi ((k' + 1 : Nat) : Int)))] (by kernel_rfl) rfl (by kernel_rfl) (Plan.ints rfl rfl rfl rfl rfl rfl (Plan.int (y := (k' : Int)) (by rw [i64r (by omega)]; omega) (Plan.gives rfl))) Gives.nil
      repeat (first | refine Plan.move rfl rfl rfl rfl ?_ | refine Plan.assign rfl rfl rfl rfl ?_ | (refine Plan.ints rfl rfl rfl rfl rfl rfl ?_; (refine Plan.int (i64r (by omega)) ?_)))
      refine Plan.indexCX k' (by omega) rfl rfl rfl rfl rfl eltE (by omega) ?_
      refine Plan.loadAggC (key := 1000) (q := 0) rfl rfl rfl rfl rfl rfl (row_reads (evF_at (by omega))) Tryz.underlying40 rfl (by rw [encE]; kernel_rfl) (by decide) ?_
      repeat (refine Plan.move rfl rfl rfl rfl ?_)
      refine Plan.indexCX (k' + 1) (by omega) rfl rfl rfl rfl rfl eltE (by omega) ?_
      refine Plan.loadAggC (key := 1000) (q := 0) rfl rfl rfl rfl rfl rfl (row_reads (evF_at (by omega))) Tryz.underlying40 rfl (by rw [encE]; kernel_rfl) (by decide) ?_
      refine Plan.indexCX (k' + 1) (by omega) rfl rfl rfl rfl rfl eltE (by omega) ?_
      refine Plan.storeC (key := 1000) (q := 0) rfl rfl rfl rfl rfl rfl (fun u hu => encE_one _ u hu) (by kernel_rfl) rfl hA rfl (row_pat (by rw [evF_len]; show _ * 26 + 26 ≤ _; omega)) ?_
      rw [evF_set (by omega)]
      refine Plan.indexCX k' (by omega) rfl rfl rfl rfl rfl eltE (by omega) ?_
      refine Plan.storeC (key := 1000) (q := 0) rfl rfl rfl rfl rfl rfl (fun u hu => encE_one _ u hu) (by kernel_rfl) rfl hA rfl (row_pat (by rw [evF_len]; show _ * 26 + 26 ≤ _; omega)) ?_
      rw [evF_set (by omega)]
      rw [setF_swap (by omega), unsh_succ f (by omega)]
      repeat (first | refine Plan.move rfl rfl rfl rfl ?_ | refine Plan.assign rfl rfl rfl rfl ?_ | (refine Plan.ints rfl rfl rfl rfl rfl rfl ?_; (refine Plan.int (i64r (by omega)) ?_)) | refine J.region mixed hI (by kernel_rfl) ?_)
      refine Plan.int (y := (k' : Int)) (by omega) ?_
      exact Nrm.next k' ⟨by omega, by omega⟩ (by omega) (by repeat (first | exact Weak.nil | refine Weak.cons rfl (Sub.refl _) ?_))
    · have hki : k = i := by omega
      subst hki
      refine J.exit ?_
      have hfin : Mix a (m + 1) f (unshF f k m) ∧ SortedF R a (m + 1) (unshF f k m) :=
        ⟨unsh_mix hi hk2 (by omega), unsh_sorted hs1 hk2 hlo hhi hi⟩
      exact J.ret (Nrm.retC0 (key := 1000) (unshF f k m) rfl rfl rfl hfin (Ent.refl _) (.inr rfl))
end Go.Proofs.YtmljgobenlpnfaaGreat
end

section
namespace Go.Proofs.YtmljgobenlpnfaaGreat
open Go.Free Go.RowKit Go.Proofs Go.Free.Sorts
set_option maxHeartbeats 8000000
def meX (es : List EvV) (F : Nat → Prop) (w0 : World) (g n cap a m b mid : Nat) (cmp : Value) (cN : Chunk) (f : Nat → Nat) (s : Nat × Nat) : Env :=
  [(0, .ex (slI g n cap)), (1, .ex (vi a)), (2, .ex (vi m)), (3, .ex (vi b)), (4, .ex cmp), (18, .ex (vi mid)), (19, .ex (vi ((mid + m : Nat) : Int))), (20, .ex (vi s.1)), (21, .ex (vi s.2)), (1000, heap (fun b => F b ∨ w0.heap.size ≤ b) [rowX es g n cap f, cN])]
def mfX (es : List EvV) (F : Nat → Prop) (w0 : World) (g n cap a m b mid p : Nat) (cmp : Value) (cN : Chunk) (f : Nat → Nat) (s : Nat × Nat) : Env :=
  [(0, .ex (slI g n cap)), (1, .ex (vi a)), (2, .ex (vi m)), (3, .ex (vi b)), (4, .ex cmp), (18, .ex (vi mid)), (19, .ex (vi ((mid + m : Nat) : Int))), (20, .ex (vi s.1)), (21, .ex (vi s.2)), (22, .ex (vi p)), (1000, heap (fun b => F b ∨ w0.heap.size ≤ b) [rowX es g n cap f, cN])]
def mgX (es : List EvV) (F : Nat → Prop) (w0 : World) (g n cap a b mid s e : Nat) (cmp : Value) (cN : Chunk) (h : Nat → Nat) : Env :=
  [(0, .ex (slI g n cap)), (1, .ex (vi a)), (3, .ex (vi b)), (4, .ex cmp), (18, .ex (vi mid)), (20, .ex (vi s)), (24, .ex (vi e)), (1000, heap (fun b => F b ∨ w0.heap.size ≤ b) [rowX es g n cap h, cN])]
theorem mergeCX {fid : FuncId} {caps : List Value} {cN : Chunk} {N : Nat} {R : Nat → Nat → Prop} (es : List EvV) (o : Ord R) (K : CmpX es fid caps cN N R) (g n cap a m b : Nat) (f : Nat → Nat) (h1 : a < m) (h2 : m < b) (hA1 : a + 1 ≠ m) (hB1 : m + 1 ≠ b) (h3 : b ≤ n) (hn : n ≤ 1000000) (hN : ∀ i, i < n → f i < N) (hs1 : SortedF R a m f) (hs2 : SortedF R m b f) (hap : Apart2 a m b f)
    (ih : ∀ (a' m' b' : Nat) (f' : Nat → Nat), b' - a' < b - a → a' < m' → m' < b' → b' ≤ n → (∀ i, i < n → f' i < N) → SortedF R a' m' f' → SortedF R m' b' f' → Apart2 a' m' b' f' → MergeSpcX es fid caps cN R g n cap a' m' b' f') :
    MergeSpcX es fid caps cN R g n cap a m b f := by
  obtain ⟨fn, hfn, hfb, hfm⟩ := K.fn
  refine SpcC.intro Tryz.func118 rfl (Nat.le_of_ble_eq_true rfl) fun w0 F => ?_
  have hI := kept_below F w0
  have hA := Own.kept F w0
  refine J.open1 (key := 1000) rfl ?_
  refine J.seq (J.seq (J.region mixed hI (by kernel_rfl) ?_))
  repeat (first | refine Plan.move rfl rfl rfl rfl ?_ | (refine Plan.ints rfl rfl rfl rfl rfl rfl ?_; (first | refine Plan.int (i64r (by omega)) ?_ | skip)))
  refine Plan.boolv (y := false) (by simp; omega) ?_
  refine J.condF rfl ?_
  refine J.skip ?_
  refine J.seq (J.seq (J.region mixed hI (by kernel_rfl) ?_))
  repeat (first | refine Plan.move rfl rfl rfl rfl ?_ | (refine Plan.ints rfl rfl rfl rfl rfl rfl ?_; (first | refine Plan.int (i64r (by omega)) ?_ | skip)))
  refine Plan.boolv (y := false) (by simp; omega) ?_
  refine J.condF rfl ?_
  refine J.skip ?_
  obtain ⟨mid, hmd⟩ : ∃ mid, mid = (a + b) / 2 := ⟨_, rfl⟩
  refine J.seq (J.region mixed hI (by kernel_rfl) ?_)
  repeat (first | refine Plan.move rfl rfl rfl rfl ?_ | (refine Plan.ints rfl rfl rfl rfl rfl rfl ?_; (refine Plan.int (i64r (by omega)) ?_)) | (refine Plan.convInt rfl rfl rfl rfl (by exact Tryz.underlying3) (by first | exact Tryz.underlying3 | exact Tryz.underlying148) ?_; (refine Plan.int (u64r (by omega)) ?_)))
  refine Plan.int (y := ((a + b : Nat) : Int)) (by omega) ?_
  repeat (fail)
  refine Plan.shrN (q := 1) rfl rfl rfl rfl rfl (by decide) ?_
  rw [show (a + b) / 2 ^ 1 = mid by rw [hmd]]
  repeat (first | refine Plan.assign rfl rfl rfl rfl ?_ | (refine Plan.convInt rfl rfl rfl rfl (by first | exact Tryz.underlying3 | exact Tryz.underlying148) (by exact Tryz.underlying3) ?_; (refine Plan.int (i64r (by omega)) ?_)))
  refine J.seq (J.region mixed hI (by kernel_rfl) ?_)
  repeat (first | refine Plan.move rfl rfl rfl rfl ?_ | refine Plan.assign rfl rfl rfl rfl ?_ | (refine Plan.ints rfl rfl rfl rfl rfl rfl ?_; (refine Plan.int (i64r (by omega)) ?_)))
  refine Plan.int (y := ((mid + m : Nat) : Int)) (by omega) ?_
  repeat (fail)
  refine J.seq (J.region mixed hI (by kernel_rfl) ?_)
  repeat (refine Plan.assign rfl rfl rfl rfl ?_)
  refine J.seqMid (meX es F w0 g n cap a m b mid (fnV fid caps) cN f) (fun s => (mid < m ∧ s.1 + b = mid + m ∧ s.2 = mid) ∨ (m ≤ mid ∧ s.1 = a ∧ s.2 = m)) ?_ ?_
  · refine J.seq (J.region mixed hI (by kernel_rfl) ?_)
    repeat (first | refine Plan.move rfl rfl rfl rfl ?_ | (refine Plan.ints rfl rfl rfl rfl rfl rfl ?_; (skip)))
    refine J.condD rfl (fun hc => ?_) (fun hc => ?_)
    · have hc' : mid < m := by omega
      refine J.seq (J.region mixed hI (by kernel_rfl) ?_)
      repeat (first | refine Plan.move rfl rfl rfl rfl ?_ | refine Plan.assign rfl rfl rfl rfl ?_ | (refine Plan.ints rfl rfl rfl rfl rfl rfl ?_; (refine Plan.int (i64r (by omega)) ?_)))
      refine Plan.int (y := ((mid + m - b : Nat) : Int)) (by omega) ?_
      repeat (fail)
      refine J.region mixed hI (by kernel_rfl) ?_
      repeat (first | refine Plan.move rfl rfl rfl rfl ?_ | refine Plan.assign rfl rfl rfl rfl ?_)
      exact Nrm.mid (mid + m - b, mid) (.inl ⟨hc', by dsimp only; omega, rfl⟩) (by repeat (first | exact Weak.nil | refine Weak.cons rfl (Sub.refl _) ?_))
    · have hc' : m ≤ mid := by omega
      refine J.seq (J.region mixed hI (by kernel_rfl) ?_)
      repeat (first | refine Plan.move rfl rfl rfl rfl ?_ | refine Plan.assign rfl rfl rfl rfl ?_)
      refine J.region mixed hI (by kernel_rfl) ?_
      repeat (first | refine Plan.move rfl rfl rfl rfl ?_ | refine Plan.assign rfl rfl rfl rfl ?_)
      exact Nrm.mid (a, m) (.inr ⟨hc', rfl, rfl⟩) (by repeat (first | exact Weak.nil | refine Weak.cons rfl (Sub.refl _) ?_))
  rintro ⟨lo, hi⟩ hlo
  simp only at hlo
  change J _ _ _ _ _ (meX es F w0 g n cap a m b mid (fnV fid caps) cN f (lo, hi))
  have hla : a ≤ lo := by omega
  have hlh : lo ≤ hi := by omega
  have hhm : hi ≤ m := by omega
  obtain ⟨p, hp⟩ : ∃ p, p = mid + m - 1 := ⟨_, rfl⟩
  have hpc : ∀ c, lo ≤ c → c < hi → a ≤ c ∧ c < m ∧ m ≤ p - c ∧ p - c < b ∧ c ≤ p := fun c q r => by omega
  refine J.seq (J.region mixed hI (by kernel_rfl) ?_)
  repeat (first | refine Plan.move rfl rfl rfl rfl ?_ | refine Plan.assign rfl rfl rfl rfl ?_ | (refine Plan.ints rfl rfl rfl rfl rfl rfl ?_; (refine Plan.int (i64r (by omega)) ?_)))
  refine Plan.int (y := (p : Int)) (by omega) ?_
  repeat (fail)
  refine J.seq (J.block (J.loop (mfX es F w0 g n cap a m b mid p (fnV fid caps) cN f) (fun s => lo ≤ s.1 ∧ s.1 ≤ s.2 ∧ s.2 ≤ hi ∧ (∀ c, lo ≤ c → c < s.1 → ¬ R (f (p - c)) (f c)) ∧ ∀ c, s.2 ≤ c → c < hi → R (f (p - c)) (f c)) (fun s => s.2 - s.1) (lo, hi) ⟨Nat.le_refl _, hlh, Nat.le_refl _, fun k q r => by dsimp only at r; omega, fun k q r => by dsimp only at q; omega⟩ ?_ ?_))
  · repeat (first | exact Weak.nil | refine Weak.cons rfl (Sub.refl _) ?_)
  rintro ⟨s, r⟩ ⟨hls, hsr, hrh, hno, hye⟩
  simp only at hls hsr hrh hno hye
  change J _ _ _ _ _ (mfX es F w0 g n cap a m b mid p (fnV fid caps) cN f (s, r))
  refine J.seq (J.seq (J.region mixed hI (by kernel_rfl) ?_))
  repeat (first | refine Plan.move rfl rfl rfl rfl ?_ | (refine Plan.ints rfl rfl rfl rfl rfl rfl ?_; (skip)))
  refine J.condD rfl (fun hc => ?_) (fun hc => ?_)
  · have hc' : s < r := by
      first | omega | (dsimp only at hc; omega)
    obtain ⟨c, hh⟩ : ∃ c, c = (s + r) / 2 := ⟨_, rfl⟩
    obtain ⟨c1, c2, c3, c4, c5⟩ := hpc c (by omega) (by omega)
    obtain ⟨v, hcall, hcR⟩ := K.call (f (p - c)) (f c) (hN _ (by omega)) (hN c (by omega))
    have hcR := hcR (hap c (p - c) c1 c2 c3 c4)
    refine J.skip ?_
    refine J.block ?_
    refine J.seq (J.region mixed hI (by kernel_rfl) ?_)
    repeat (first | refine Plan.move rfl rfl rfl rfl ?_ | (refine Plan.ints rfl rfl rfl rfl rfl rfl ?_; (refine Plan.int (i64r (by omega)) ?_)) | (refine Plan.convInt rfl rfl rfl rfl (by exact Tryz.underlying3) (by first | exact Tryz.underlying3 | exact Tryz.underlying148) ?_; (refine Plan.int (u64r (by omega)) ?_)))
    refine Plan.int (y := ((s + r : Nat) : Int)) (by omega) ?_
    repeat (fail)
    refine Plan.shrN (q := 1) rfl rfl rfl rfl rfl (by decide) ?_
    rw [show (s + r) / 2 ^ 1 = c by rw [hh]]
    repeat (first | refine Plan.assign rfl rfl rfl rfl ?_ | (refine Plan.convInt rfl rfl rfl rfl (by first | exact Tryz.underlying3 | exact Tryz.underlying148) (by exact Tryz.underlying3) ?_; (refine Plan.int (i64r (by omega)) ?_)))
    refine J.seq (J.region mixed hI (by kernel_rfl) ?_)
    repeat (first | refine Plan.move rfl rfl rfl rfl ?_ | (refine Plan.ints rfl rfl rfl rfl rfl rfl ?_; (refine Plan.int (i64r (by omega)) ?_)))
    refine Plan.indexCX (p - c) (by omega) rfl rfl rfl rfl rfl eltE (by omega) ?_
    refine Plan.loadAggC (key := 1000) (q := 0) rfl rfl rfl rfl rfl rfl (row_reads (evF_at (by omega))) Tryz.underlying40 rfl (by rw [encE]; kernel_rfl) (by decide) ?_
    repeat (refine Plan.move rfl rfl rfl rfl ?_)
    refine Plan.indexCX c (by omega) rfl rfl rfl rfl rfl eltE (by omega) ?_
    refine Plan.loadAggC (key := 1000) (q := 0) rfl rfl rfl rfl rfl rfl (row_reads (evF_at (by omega))) Tryz.underlying40 rfl (by rw [encE]; kernel_rfl) (by decide) ?_
    repeat (fail)
    refine Plan.callFR (key := 1000) (B := 0) (fs := [.ex (aggE (es.getD (f (p - c)) ev0)), .ex (aggE (es.getD (f c) ev0))]) (caps := caps) rfl rfl rfl rfl hcall hfn hfb hfm (fun _ _ => Nat.zero_le _) (Opnds.cons rfl (Sub.refl _) (Opnds.cons rfl (Sub.refl _) Opnds.nil)) rfl (Ent.right.trans Ent.left) (by decide) ?_
    repeat (first | (refine Plan.ints rfl rfl rfl rfl rfl rfl ?_; (skip)) | refine Plan.un rfl rfl rfl rfl rfl ?_)
    refine J.condND rfl (fun hd => ?_) (fun hd => ?_)
    · have hR : ¬ R (f (p - c)) (f c) := fun e => hd (hcR.2 e)
      refine J.region mixed hI (by kernel_rfl) ?_
      repeat (first | refine Plan.move rfl rfl rfl rfl ?_ | refine Plan.assign rfl rfl rfl rfl ?_ | (refine Plan.ints rfl rfl rfl rfl rfl rfl ?_; (refine Plan.int (i64r (by omega)) ?_)))
      refine Plan.int (y := ((c + 1 : Nat) : Int)) (by omega) ?_
      repeat (fail)
      refine Nrm.next (c + 1, r) ⟨by dsimp only; omega, by dsimp only; omega, hrh, fun k q1 q2 e => hR ?_, hye⟩ (by dsimp only; omega) (by repeat (first | exact Weak.nil | refine Weak.cons rfl (Sub.refl _) ?_))
      dsimp only at q2
      obtain ⟨d1, d2, d3, d4, d5⟩ := hpc k q1 (by omega)
      exact sorted_ge o hs1 d1 (by omega) c2 (sorted_le o hs2 c3 (by omega) d4 e)
    · have hR := hcR.1 hd
      refine J.region mixed hI (by kernel_rfl) ?_
      repeat (first | refine Plan.move rfl rfl rfl rfl ?_ | refine Plan.assign rfl rfl rfl rfl ?_)
      refine Nrm.next (s, c) ⟨hls, by dsimp only; omega, by dsimp only; omega, hno, fun k q1 q2 => ?_⟩ (by dsimp only; omega) (by repeat (first | exact Weak.nil | refine Weak.cons rfl (Sub.refl _) ?_))
      dsimp only at q1
      obtain ⟨d1, d2, d3, d4, d5⟩ := hpc k (by omega) q2
      exact sorted_le o hs2 d3 (by omega) c4 (sorted_ge o hs1 c1 q1 d2 hR)
  · have hsr' : s = r := by
      first | omega | (dsimp only at hc; omega)
    subst hsr'
    refine J.exit ?_
    obtain ⟨e, he⟩ : ∃ e, e = mid + m - s := ⟨_, rfl⟩
    have hme : m ≤ e := by omega
    have heb : e ≤ b := by omega
    have has : a ≤ s := by omega
    have hsm : s ≤ mid := by omega
    have hsm2 : s ≤ m := by omega
    have hmie : mid ≤ e := by omega
    have hmid1 : a < mid := by omega
    have hmid2 : mid < b := by omega
    have hsp := merge_split o hs1 hs2 hap h1 h2 (show 2 * mid ≤ a + b ∧ a + b ≤ 2 * mid + 1 by omega) hlo hla hls hrh (show e + s = mid + m by omega) (fun c q1 q2 => by rw [← hp]; exact hno c q1 q2) (fun c q1 q2 => by rw [← hp]; exact hye c q1 q2)
    have hmx : Mix a b f (rotF f s m e) := (rot_mix hsm2 hme).wide has heb
    refine J.seq (J.region mixed hI (by kernel_rfl) ?_)
    repeat (first | refine Plan.move rfl rfl rfl rfl ?_ | refine Plan.assign rfl rfl rfl rfl ?_ | (refine Plan.ints rfl rfl rfl rfl rfl rfl ?_; (refine Plan.int (i64r (by omega)) ?_)))
    refine Plan.int (y := (e : Int)) (by omega) ?_
    repeat (fail)
    refine J.seqMid (σ := Unit) (fun _ => mgX es F w0 g n cap a b mid s e (fnV fid caps) cN (rotF f s m e)) (fun _ => True) ?_ ?_
    · refine J.seq (J.region mixed hI (by kernel_rfl) ?_)
      repeat (first | refine Plan.move rfl rfl rfl rfl ?_ | (refine Plan.ints rfl rfl rfl rfl rfl rfl ?_; (skip)))
      by_cases hb1 : s < m
      · refine Plan.boolv (y := true) (decide_eq_true (by omega)) ?_
        repeat (first | refine Plan.move rfl rfl rfl rfl ?_ | refine Plan.pick rfl rfl rfl rfl rfl ?_ | (refine Plan.ints rfl rfl rfl rfl rfl rfl ?_; (skip)))
        by_cases hb2 : m < e
        · refine Plan.boolv (y := true) (decide_eq_true (by omega)) ?_
          repeat (fail)
          refine J.condT rfl ?_
          refine J.region mixed hI (by kernel_rfl) ?_
          repeat (refine Plan.move rfl rfl rfl rfl ?_)
          refine Plan.callC (key := 1000) (q := 0) rfl rfl rfl (rotate_fnX es g n cap s m e f (fnV fid caps) hb1 hb2 (by omega) hn) Tryz.func121 rfl rfl (by intro _ e; cases e; decide) (by repeat (first | exact Opnds.nil | refine Opnds.cons rfl (by exact Sub.refl _) ?_)) rfl hA rfl ?_
          intro _ _
          exact Nrm.mid () trivial (by repeat (first | exact Weak.nil | refine Weak.cons rfl (Sub.refl _) ?_))
        · refine Plan.boolv (y := false) (decide_eq_false (by omega)) ?_
          repeat (fail)
          refine J.condF rfl ?_
          refine J.skip ?_
          rw [rot_none (.inr (by omega)) hsm2 hme]
          exact Nrm.mid () trivial (by repeat (first | exact Weak.nil | refine Weak.cons rfl (Sub.refl _) ?_))
      · refine Plan.boolv (y := false) (decide_eq_false (by omega)) ?_
        repeat (first | refine Plan.skip rfl rfl ?_ | refine Plan.pick rfl rfl rfl rfl rfl ?_)
        refine J.condF rfl ?_
        refine J.skip ?_
        rw [rot_none (.inl (by omega)) hsm2 hme]
        exact Nrm.mid () trivial (by repeat (first | exact Weak.nil | refine Weak.cons rfl (Sub.refl _) ?_))
    intro _ _
    generalize rotF f s m e = g0 at *
    refine J.seqMid (mgX es F w0 g n cap a b mid s e (fnV fid caps) cN) (fun h => Mix a mid g0 h ∧ SortedF R a mid h) ?_ ?_
    · refine J.seq (J.region mixed hI (by kernel_rfl) ?_)
      repeat (first | refine Plan.move rfl rfl rfl rfl ?_ | (refine Plan.ints rfl rfl rfl rfl rfl rfl ?_; (skip)))
      by_cases hb1 : a < s
      · refine Plan.boolv (y := true) (decide_eq_true (by omega)) ?_
        repeat (first | refine Plan.move rfl rfl rfl rfl ?_ | refine Plan.pick rfl rfl rfl rfl rfl ?_ | (refine Plan.ints rfl rfl rfl rfl rfl rfl ?_; (skip)))
        by_cases hb2 : s < mid
        · refine Plan.boolv (y := true) (decide_eq_true (by omega)) ?_
          repeat (fail)
          refine J.condT rfl ?_
          refine J.region mixed hI (by kernel_rfl) ?_
          repeat (refine Plan.move rfl rfl rfl rfl ?_)
          have hrec := ih a s mid g0 (by omega) hb1 hb2 (by omega) (mix_bound hmx h3 hN) hsp.s1 hsp.s2 hsp.a1
          refine Plan.callL (key := 1000) [0, 1] [] rfl rfl rfl (hrec) Tryz.func118 rfl rfl (by intro _ e; cases e; decide) (by repeat (first | exact Opnds.nil | refine Opnds.cons rfl (by exact Sub.refl _) ?_)) rfl hA rfl rfl rfl ?_
          rintro h ⟨hx1, hx2⟩
          exact Nrm.mid h ⟨hx1, hx2⟩ (by repeat (first | exact Weak.nil | refine Weak.cons rfl (Sub.refl _) ?_))
        · refine Plan.boolv (y := false) (decide_eq_false (by omega)) ?_
          repeat (fail)
          refine J.condF rfl ?_
          refine J.skip ?_
          have hsm' : s = mid := by omega
          exact Nrm.mid g0 ⟨Mix.refl _ _ _, hsm' ▸ hsp.s1⟩ (by repeat (first | exact Weak.nil | refine Weak.cons rfl (Sub.refl _) ?_))
      · refine Plan.boolv (y := false) (decide_eq_false (by omega)) ?_
        repeat (first | refine Plan.skip rfl rfl ?_ | refine Plan.pick rfl rfl rfl rfl rfl ?_)
        refine J.condF rfl ?_
        refine J.skip ?_
        have hsa : s = a := by omega
        exact Nrm.mid g0 ⟨Mix.refl _ _ _, hsa ▸ hsp.s2⟩ (by repeat (first | exact Weak.nil | refine Weak.cons rfl (Sub.refl _) ?_))
    rintro k ⟨hk1, hk2⟩
    have hcr := cross_left hk1 hsp.cross
    have hs3 := sorted_out hk1 hsp.s3 (.inr (Nat.le_refl _))
    have hs4 := sorted_out hk1 hsp.s4 (.inr hmie)
    have ha2 := apart_out hk1 hsp.a2 (.inr (Nat.le_refl _))
    have hmk : Mix a b f k := hmx.trans (hk1.wide (Nat.le_refl _) (by omega))
    have hfin : ∀ h, Mix mid b k h → SortedF R mid b h → Mix a b f h ∧ SortedF R a b h := fun h x1 x2 =>
      ⟨hmk.trans (x1.wide (by omega) (Nat.le_refl _)), merge_join (sorted_out x1 hk2 (.inl (Nat.le_refl _))) x2 (cross_right x1 hcr)⟩
    refine J.seq (J.region mixed hI (by kernel_rfl) ?_)
    repeat (first | refine Plan.move rfl rfl rfl rfl ?_ | (refine Plan.ints rfl rfl rfl rfl rfl rfl ?_; (skip)))
    by_cases hb1 : mid < e
    · refine Plan.boolv (y := true) (decide_eq_true (by omega)) ?_
      repeat (first | refine Plan.move rfl rfl rfl rfl ?_ | refine Plan.pick rfl rfl rfl rfl rfl ?_ | (refine Plan.ints rfl rfl rfl rfl rfl rfl ?_; (skip)))
      by_cases hb2 : e < b
      · refine Plan.boolv (y := true) (decide_eq_true (by omega)) ?_
        repeat (fail)
        refine J.condT rfl ?_
        refine J.region mixed hI (by kernel_rfl) ?_
        repeat (refine Plan.move rfl rfl rfl rfl ?_)
        have hrec := ih mid e b k (by omega) hb1 hb2 h3 (mix_bound hmk h3 hN) hs3 hs4 ha2
        refine Plan.callL (key := 1000) [0, 1] [] rfl rfl rfl (hrec) Tryz.func118 rfl rfl (by intro _ e; cases e; decide) (by repeat (first | exact Opnds.nil | refine Opnds.cons rfl (by exact Sub.refl _) ?_)) rfl hA rfl rfl rfl ?_
        rintro h ⟨hx1, hx2⟩
        exact Nrm.retC0 (key := 1000) h rfl rfl rfl (hfin h hx1 hx2) (by exact Ent.refl _) (.inl rfl)
      · refine Plan.boolv (y := false) (decide_eq_false (by omega)) ?_
        repeat (fail)
        refine J.condF rfl ?_
        refine J.skip ?_
        have heb' : e = b := by omega
        exact Nrm.retC0 (key := 1000) k rfl rfl rfl (hfin k (Mix.refl _ _ _) (heb' ▸ hs3)) (by exact Ent.refl _) (.inl rfl)
    · refine Plan.boolv (y := false) (decide_eq_false (by omega)) ?_
      repeat (first | refine Plan.skip rfl rfl ?_ | refine Plan.pick rfl rfl rfl rfl rfl ?_)
      refine J.condF rfl ?_
      refine J.skip ?_
      have hem : e = mid := by omega
      exact Nrm.retC0 (key := 1000) k rfl rfl rfl (hfin k (Mix.refl _ _ _) (hem ▸ hs4)) (by exact Ent.refl _) (.inl rfl)
theorem merge_fnX {fid : FuncId} {caps : List Value} {cN : Chunk} {N : Nat} {R : Nat → Nat → Prop} (es : List EvV) (o : Ord R) (K : CmpX es fid caps cN N R) (g n cap : Nat) (hn : n ≤ 1000000) : ∀ (d a m b : Nat) (f : Nat → Nat), b - a < d → a < m → m < b → b ≤ n → (∀ i, i < n → f i < N) → SortedF R a m f → SortedF R m b f → Apart2 a m b f →
    MergeSpcX es fid caps cN R g n cap a m b f
  | 0, _, _, _, _, h, _, _, _, _, _, _, _ => absurd h (Nat.not_lt_zero _)
  | d + 1, a, m, b, f, hd, h1, h2, h3, hN, hs1, hs2, hap => by
    by_cases hA1 : a + 1 = m
    · subst hA1
      exact mergeAX es o K g n cap a b f h2 h3 hn hN hs2 hap
    by_cases hB1 : m + 1 = b
    · subst hB1
      exact mergeBX es o K g n cap a m f h1 hA1 h3 hn hN hs1 hap
    exact mergeCX es o K g n cap a m b f h1 h2 hA1 hB1 h3 hn hN hs1 hs2 hap fun a' m' b' f' h p1 p2 p3 p4 p5 p6 p7 => merge_fnX es o K g n cap hn d a' m' b' f' (by omega) p1 p2 p3 p4 p5 p6 p7
end Go.Proofs.YtmljgobenlpnfaaGreat
end

section
namespace Go.Proofs.YtmljgobenlpnfaaGreat
open Go.Free Go.RowKit Go.Proofs Go.Free.Sorts
set_option maxHeartbeats 8000000
def stX (es : List EvV) (F : Nat → Prop) (w0 : World) (g n cap : Nat) (cmp : Value) (cN : Chunk) (s : Nat × (Nat → Nat)) : Env :=
  [(0, .ex (slI g n cap)), (1, .ex (vi n)), (2, .ex cmp), (6, .ex (vi 20)), (7, .ex (vi s.1)), (8, .ex (vi ((s.1 + 20 : Nat) : Int))), (1000, heap (fun b => F b ∨ w0.heap.size ≤ b) [rowX es g n cap s.2, cN])]
def suX (es : List EvV) (F : Nat → Prop) (w0 : World) (g n cap : Nat) (cmp : Value) (cN : Chunk) (s : Nat × (Nat → Nat)) : Env :=
  [(0, .ex (slI g n cap)), (1, .ex (vi n)), (2, .ex cmp), (6, .ex (vi s.1)), (1000, heap (fun b => F b ∨ w0.heap.size ≤ b) [rowX es g n cap s.2, cN])]
def svX (es : List EvV) (F : Nat → Prop) (w0 : World) (g n cap bs : Nat) (cmp : Value) (cN : Chunk) (s : Nat × (Nat → Nat)) : Env :=
  [(0, .ex (slI g n cap)), (1, .ex (vi n)), (2, .ex cmp), (6, .ex (vi bs)), (7, .ex (vi s.1)), (8, .ex (vi ((s.1 + 2 * bs : Nat) : Int))), (1000, heap (fun b => F b ∨ w0.heap.size ≤ b) [rowX es g n cap s.2, cN])]
theorem stable_fnX {fid : FuncId} {caps : List Value} {cN : Chunk} {N : Nat} {R : Nat → Nat → Prop} (es : List EvV) (o : Ord R) (K : CmpX es fid caps cN N R) (g n cap : Nat) (f : Nat → Nat) (hn : n ≤ 1000000) (hN : ∀ i, i < n → f i < N) (hinc : ∀ i j, i < j → j < n → f i < f j) :
    SpcC Tryz.prog 111 [.ex (slI g n cap), .ex (vi n), .ex (fnV fid caps)] (allC [rowX es g n cap f, cN]) (fun h : Nat → Nat => Mix 0 n f h ∧ SortedF R 0 n h) (fun _ => Fa.any)
      (fun h => allC [rowX es g n cap h, cN]) := by
  refine SpcC.intro Tryz.func111 rfl (Nat.le_of_ble_eq_true rfl) fun w0 F => ?_
  have hI := kept_below F w0
  have hA := Own.kept F w0
  refine J.open1 (key := 1000) rfl ?_
  refine J.seq (J.region mixed hI (by kernel_rfl) ?_)
  repeat (refine Plan.assign rfl rfl rfl rfl ?_)
  refine J.seq (J.region mixed hI (by kernel_rfl) ?_)
  repeat (first | refine Plan.move rfl rfl rfl rfl ?_ | refine Plan.assign rfl rfl rfl rfl ?_)
  refine J.seq (J.block (J.loop (stX es F w0 g n cap (fnV fid caps) cN) (fun s => s.1 ≤ n ∧ (∃ q, s.1 = q * 20) ∧ BlkM R (cls 1 20 s.1) n f s.2) (fun s => n - s.1) (0, f) ⟨Nat.zero_le _, ⟨0, rfl⟩, BlkM.refl _ _ _⟩ ?_ ?_))
  · repeat (first | exact Weak.nil | refine Weak.cons rfl (Sub.refl _) ?_)
  rintro ⟨a, h⟩ ⟨han, ⟨q, hq⟩, hbl⟩
  simp only at han hq hbl
  change J _ _ _ _ _ (stX es F w0 g n cap (fnV fid caps) cN (a, h))
  have hsame : ∀ i j, a ≤ i → i < j → j < n → h i < h j := fun i j p r t => by rw [hbl.same p (by omega), hbl.same (by omega) t]; exact hinc i j r t
  refine J.seq (J.seq (J.region mixed hI (by kernel_rfl) ?_))
  repeat (first | refine Plan.move rfl rfl rfl rfl ?_ | (refine Plan.ints rfl rfl rfl rfl rfl rfl ?_; (skip)))
  refine J.condD rfl (fun hc => ?_) (fun hc => ?_)
  · have hc' : a + 20 ≤ n := by
      first | omega | (dsimp only at hc; omega)
    refine J.skip ?_
    refine J.block ?_
    refine J.seq (J.region mixed hI (by kernel_rfl) ?_)
    repeat (refine Plan.move rfl rfl rfl rfl ?_)
    refine Plan.callL (key := 1000) [0, 1] [] rfl rfl rfl ((insertionSort_fnX es o K g n cap a (a + 20) h (by omega) hc' hn (hbl.bound hN) (fun i j p r t => hsame i j p r (by omega)))) Tryz.func117 rfl rfl (by intro _ e; cases e; decide) (by repeat (first | exact Opnds.nil | refine Opnds.cons rfl (by exact Sub.refl _) ?_)) rfl hA rfl rfl rfl ?_
    rintro h' ⟨hx1, hx2⟩
    refine J.seq (J.region mixed hI (by kernel_rfl) ?_)
    repeat (first | refine Plan.move rfl rfl rfl rfl ?_ | refine Plan.assign rfl rfl rfl rfl ?_)
    refine J.region mixed hI (by kernel_rfl) ?_
    repeat (first | refine Plan.move rfl rfl rfl rfl ?_ | refine Plan.assign rfl rfl rfl rfl ?_ | (refine Plan.ints rfl rfl rfl rfl rfl rfl ?_; (refine Plan.int (i64r (by omega)) ?_)))
    refine Plan.int (y := ((a + 20 + 20 : Nat) : Int)) (by omega) ?_
    repeat (fail)
    exact Nrm.next (a + 20, h') ⟨hc', ⟨q + 1, by dsimp only; omega⟩, hbl.more (t := 20) (q := q) (by decide) (by decide) (by decide) hq hc' hx1 hx2⟩ (by dsimp only; omega) (by repeat (first | exact Weak.nil | refine Weak.cons rfl (Sub.refl _) ?_))
  · have hc' : n < a + 20 := by
      first | omega | (dsimp only at hc; omega)
    refine J.exit ?_
    refine J.seq (J.region mixed hI (by kernel_rfl) ?_)
    repeat (refine Plan.move rfl rfl rfl rfl ?_)
    refine Plan.callL (key := 1000) [0, 1] [] rfl rfl rfl ((insertionSort_fnX es o K g n cap a n h han (Nat.le_refl _) hn (hbl.bound hN) (fun i j p r t => hsame i j p r t))) Tryz.func117 rfl rfl (by intro _ e; cases e; decide) (by repeat (first | exact Opnds.nil | refine Opnds.cons rfl (by exact Sub.refl _) ?_)) rfl hA rfl rfl rfl ?_
    rintro h' ⟨hx1, hx2⟩
    have hb20 : BlkM R (fun i => i / 20) n f h' := hbl.last (t := 20) (q := q) (by decide) (by decide) (by decide) hq han hc' hx1 hx2
    refine J.block (J.loop (suX es F w0 g n cap (fnV fid caps) cN) (fun s => 0 < s.1 ∧ s.1 ≤ 2000020 ∧ BlkM R (fun i => i / s.1) n f s.2) (fun s => n - s.1) (20, h') ⟨by dsimp only; omega, by dsimp only; omega, hb20⟩ ?_ ?_)
    · repeat (first | exact Weak.nil | refine Weak.cons rfl (Sub.refl _) ?_)
    rintro ⟨bs, h⟩ ⟨hb0, hbm, hbl⟩
    simp only at hb0 hbm hbl
    change J _ _ _ _ _ (suX es F w0 g n cap (fnV fid caps) cN (bs, h))
    refine J.seq (J.seq (J.region mixed hI (by kernel_rfl) ?_))
    repeat (first | refine Plan.move rfl rfl rfl rfl ?_ | (refine Plan.ints rfl rfl rfl rfl rfl rfl ?_; (skip)))
    refine J.condD rfl (fun hc => ?_) (fun hc => ?_)
    · have hbn : bs < n := by
        first | omega | (dsimp only at hc; omega)
      refine J.skip ?_
      refine J.block ?_
      refine J.seq (J.region mixed hI (by kernel_rfl) ?_)
      repeat (first | refine Plan.move rfl rfl rfl rfl ?_ | refine Plan.assign rfl rfl rfl rfl ?_ | (refine Plan.ints rfl rfl rfl rfl rfl rfl ?_; (refine Plan.int (i64r (by omega)) ?_)))
      refine Plan.int (y := ((0 + 2 * bs : Nat) : Int)) (by omega) ?_
      repeat (fail)
      refine J.seq (J.block (J.loop (svX es F w0 g n cap bs (fnV fid caps) cN) (fun s => s.1 ≤ n ∧ (∃ q, s.1 = q * (2 * bs)) ∧ BlkM R (cls bs (2 * bs) s.1) n f s.2) (fun s => n - s.1) (0, h) ⟨Nat.zero_le _, ⟨0, (Nat.zero_mul _).symm⟩, hbl.open_ _⟩ ?_ ?_))
      · repeat (first | exact Weak.nil | refine Weak.cons rfl (Sub.refl _) ?_)
      rintro ⟨a, h⟩ ⟨han, ⟨q, hq⟩, hbl⟩
      simp only at han hq hbl
      change J _ _ _ _ _ (svX es F w0 g n cap bs (fnV fid caps) cN (a, h))
      refine J.seq (J.seq (J.region mixed hI (by kernel_rfl) ?_))
      repeat (first | refine Plan.move rfl rfl rfl rfl ?_ | (refine Plan.ints rfl rfl rfl rfl rfl rfl ?_; (skip)))
      refine J.condD rfl (fun hd => ?_) (fun hd => ?_)
      · have hd' : a + 2 * bs ≤ n := by
          first | omega | (dsimp only at hd; omega)
        obtain ⟨y1, y2, y3⟩ := hbl.two (m := a + bs) (b := a + 2 * bs) hb0 hq rfl (by omega) hd' (Nat.le_refl _) hinc
        refine J.skip ?_
        refine J.block ?_
        refine J.seq (J.region mixed hI (by kernel_rfl) ?_)
        refine Plan.move rfl rfl rfl rfl ?_
        refine Plan.move rfl rfl rfl rfl ?_
        refine Plan.move rfl rfl rfl rfl ?_
        refine Plan.move rfl rfl rfl rfl ?_
        refine Plan.ints rfl rfl rfl rfl rfl rfl ?_
        refine Plan.int (y := ((a + bs : Nat) : Int)) (by dsimp only; rw [i64r (by omega)]; omega) ?_
        repeat (refine Plan.move rfl rfl rfl rfl ?_)
        refine Plan.callL (key := 1000) [0, 1] [] rfl rfl rfl ((merge_fnX es o K g n cap hn (2 * bs + 1) a (a + bs) (a + 2 * bs) h (by omega) (by omega) (by omega) hd' (hbl.bound hN) y1 y2 y3)) Tryz.func118 rfl rfl (by intro _ e; cases e; decide) (by repeat (first | exact Opnds.nil | refine Opnds.cons rfl (by exact Sub.refl _) ?_)) rfl hA rfl rfl rfl ?_
        rintro h' ⟨hx1, hx2⟩
        refine J.seq (J.region mixed hI (by kernel_rfl) ?_)
        repeat (first | refine Plan.move rfl rfl rfl rfl ?_ | refine Plan.assign rfl rfl rfl rfl ?_)
        refine J.region mixed hI (by kernel_rfl) ?_
        repeat (first | refine Plan.move rfl rfl rfl rfl ?_ | refine Plan.assign rfl rfl rfl rfl ?_ | (refine Plan.ints rfl rfl rfl rfl rfl rfl ?_; (refine Plan.int (i64r (by omega)) ?_)))
        refine Plan.int (y := ((a + 2 * bs + 2 * bs : Nat) : Int)) (by omega) ?_
        repeat (fail)
        exact Nrm.next (a + 2 * bs, h') ⟨hd', ⟨q + 1, by dsimp only; rw [Nat.add_mul, ← hq]; omega⟩, hbl.more (t := 2) (q := q) hb0 (by decide) rfl hq hd' hx1 hx2⟩ (by dsimp only; omega) (by repeat (first | exact Weak.nil | refine Weak.cons rfl (Sub.refl _) ?_))
      · have hd' : n < a + 2 * bs := by
          first | omega | (dsimp only at hd; omega)
        refine J.exit ?_
        refine J.seqMid (suX es F w0 g n cap (fnV fid caps) cN) (fun s => s.1 = bs ∧ BlkM R (fun i => i / (2 * bs)) n f s.2) ?_ ?_
        · refine J.seq (J.region mixed hI (by kernel_rfl) ?_)
          repeat (first | refine Plan.move rfl rfl rfl rfl ?_ | refine Plan.assign rfl rfl rfl rfl ?_ | (refine Plan.ints rfl rfl rfl rfl rfl rfl ?_; (refine Plan.int (i64r (by omega)) ?_)))
          refine Plan.int (y := ((a + bs : Nat) : Int)) (by omega) ?_
          repeat (fail)
          refine J.seq (J.region mixed hI (by kernel_rfl) ?_)
          repeat (first | refine Plan.move rfl rfl rfl rfl ?_ | (refine Plan.ints rfl rfl rfl rfl rfl rfl ?_; (skip)))
          refine J.condD rfl (fun he => ?_) (fun he => ?_)
          · have he' : a + bs < n := by
              first | omega | (dsimp only at he; omega)
            obtain ⟨y1, y2, y3⟩ := hbl.two (m := a + bs) (b := n) hb0 hq rfl he' (Nat.le_refl _) (by omega) hinc
            refine J.region mixed hI (by kernel_rfl) ?_
            repeat (refine Plan.move rfl rfl rfl rfl ?_)
            refine Plan.callL (key := 1000) [0, 1] [] rfl rfl rfl ((merge_fnX es o K g n cap hn (2 * bs + 1) a (a + bs) n h (by omega) (by omega) he' (Nat.le_refl _) (hbl.bound hN) y1 y2 y3)) Tryz.func118 rfl rfl (by intro _ e; cases e; decide) (by repeat (first | exact Opnds.nil | refine Opnds.cons rfl (by exact Sub.refl _) ?_)) rfl hA rfl rfl rfl ?_
            rintro h' ⟨hx1, hx2⟩
            exact Nrm.mid (bs, h') ⟨rfl, hbl.last (t := 2) (q := q) hb0 (by decide) rfl hq han hd' hx1 hx2⟩ (by repeat (first | exact Weak.nil | refine Weak.cons rfl (Sub.refl _) ?_))
          · have he' : n ≤ a + bs := by
              first | omega | (dsimp only at he; omega)
            refine J.skip ?_
            have hso : SortedF R a n h := by
              have ha2 : a = (2 * q) * bs := by rw [hq, Nat.mul_comm 2 q, Nat.mul_assoc]
              refine fun i j p r t => hbl.srt i j r t ?_
              unfold cls
              rw [if_neg (by omega), if_neg (by omega), (div_iff hb0 (q := 2 * q)).2 ⟨by omega, by omega⟩, (div_iff hb0 (q := 2 * q)).2 ⟨by omega, by omega⟩]
            exact Nrm.mid (bs, h) ⟨rfl, hbl.last (t := 2) (q := q) hb0 (by decide) rfl hq han hd' (Mix.refl _ _ _) hso⟩ (by repeat (first | exact Weak.nil | refine Weak.cons rfl (Sub.refl _) ?_))
        rintro ⟨bs', h'⟩ ⟨rfl, hbl'⟩
        simp only at hbl'
        refine J.region mixed hI (by kernel_rfl) ?_
        repeat (first | refine Plan.move rfl rfl rfl rfl ?_ | refine Plan.assign rfl rfl rfl rfl ?_ | (refine Plan.ints rfl rfl rfl rfl rfl rfl ?_; (refine Plan.int (i64r (by omega)) ?_)))
        refine Plan.int (y := ((2 * bs' : Nat) : Int)) (by omega) ?_
        repeat (fail)
        exact Nrm.next (2 * bs', h') ⟨by dsimp only; omega, by dsimp only; omega, hbl'⟩ (by dsimp only; omega) (by repeat (first | exact Weak.nil | refine Weak.cons rfl (Sub.refl _) ?_))
    · have hbn : n ≤ bs := by
        first | omega | (dsimp only at hc; omega)
      refine J.exit ?_
      exact Nrm.retC0 (key := 1000) h rfl rfl rfl (hbl.all hbn) (by exact Ent.refl _) (.inl rfl)
theorem sortStable_fnX {fid : FuncId} {caps : List Value} {cN : Chunk} {N : Nat} {R : Nat → Nat → Prop} (es : List EvV) (o : Ord R) (K : CmpX es fid caps cN N R) (g n cap : Nat) (f : Nat → Nat) (hn : n ≤ 1000000) (hN : ∀ i, i < n → f i < N) (hinc : ∀ i j, i < j → j < n → f i < f j) :
    SpcC Tryz.prog 95 [.ex (slI g n cap), .ex (fnV fid caps)] (allC [rowX es g n cap f, cN]) (fun h : Nat → Nat => Mix 0 n f h ∧ SortedF R 0 n h) (fun _ => Fa.any)
      (fun h => allC [rowX es g n cap h, cN]) := by
  refine SpcC.intro Tryz.func95 rfl (Nat.le_of_ble_eq_true rfl) fun w0 F => ?_
  have hI := kept_below F w0
  have hA := Own.kept F w0
  refine J.open1 (key := 1000) rfl ?_
  refine J.region mixed hI (by kernel_rfl) ?_
  repeat (first | refine Plan.move rfl rfl rfl rfl ?_ | refine Plan.lenE rfl rfl rfl rfl (by first | exact Tryz.underlying56 | exact Tryz.underlying22) ?_)
  refine Plan.callL (key := 1000) [0, 1] [] rfl rfl rfl ((stable_fnX es o K g n cap f hn hN hinc)) Tryz.func111 rfl rfl (by intro _ e; cases e; decide) (by repeat (first | exact Opnds.nil | refine Opnds.cons rfl (by exact Sub.refl _) ?_)) rfl hA rfl rfl rfl ?_
  rintro h hx
  exact Nrm.retC0 (key := 1000) h rfl rfl rfl hx (by exact Ent.refl _) (.inl rfl)
end Go.Proofs.YtmljgobenlpnfaaGreat
end

section
namespace Go.Proofs.YtmljgobenlpnfaaGreat
open Go.Free Go.RowKit Go.Proofs Go.Free.Sorts
def dotOf (e : EvV) : Int × Int := (e.r, e.n)
def unlikeM (n : List EvV) : Prop := n.Pairwise fun a b => dotOf a ≠ dotOf b
def pdot (n : List EvV) (e : EvV) : Option (Int × Int) := if e.rr = 0 ∧ e.rn = 0 then none else if n.any (hangs e) = true then some (e.rr, e.rn) else none
def byLate (n : List EvV) : List EvV := n.mergeSort fun a b => decide (¬ ltE a b)
def kidsD (n : List EvV) (p : Option (Int × Int)) : List EvV := byLate (n.filter fun e => decide (pdot n e = p))
def undD (n : List EvV) : Nat → Option (Int × Int) → List EvV
  | 0, _ => []
  | k + 1, p => (kidsD n p).flatMap fun e => e :: undD n k (some (dotOf e))
theorem ltE_tot {a b : EvV} (h : dotOf a ≠ dotOf b) : ltE a b ∨ ltE b a := by
  unfold dotOf at h
  unfold ltE
  by_cases h1 : a.r = b.r
  · have : a.n ≠ b.n := fun h2 => h (by rw [h1, h2])
    omega
  · omega
theorem late_one : ∀ {l m : List EvV}, l.Pairwise (fun a b => ltE b a) → m.Pairwise (fun a b => ltE b a) → (∀ v, v ∈ l ↔ v ∈ m) → l = m
  | [], [], _, _, _ => rfl
  | [], y :: m, _, _, h => absurd ((h y).2 List.mem_cons_self) (by simp)
  | x :: l, [], _, _, h => absurd ((h x).1 List.mem_cons_self) (by simp)
  | x :: l, y :: m, hl, hm, h => by
    obtain ⟨h1, h2⟩ := List.pairwise_cons.1 hl
    obtain ⟨h3, h4⟩ := List.pairwise_cons.1 hm
    have hxy : x = y := by
      rcases List.mem_cons.1 ((h x).1 List.mem_cons_self) with e | hx
      · exact e
      · rcases List.mem_cons.1 ((h y).2 List.mem_cons_self) with e | hy
        · exact e.symm
        · exact absurd (ltE_trans (h1 y hy) (h3 x hx)) (ltE_irr y)
    subst hxy
    have hx1 : x ∉ l := fun hx => ltE_irr x (h1 x hx)
    have hx2 : x ∉ m := fun hx => ltE_irr x (h3 x hx)
    congr 1
    refine late_one h2 h4 fun v => ?_
    have hv := h v
    rw [List.mem_cons, List.mem_cons] at hv
    constructor
    · intro hvl
      rcases hv.1 (.inr hvl) with e | hvm
      · exact absurd (e ▸ hvl) hx1
      · exact hvm
    · intro hvm
      rcases hv.2 (.inr hvm) with e | hvl
      · exact absurd (e ▸ hvm) hx2
      · exact hvl
theorem byLate_mem {n : List EvV} {v : EvV} : v ∈ byLate n ↔ v ∈ n := (List.mergeSort_perm n _).mem_iff
theorem unlike_ltE {n : List EvV} (h : unlikeM n) {a b : EvV} (ha : a ∈ n) (hb : b ∈ n) (hd : dotOf a = dotOf b) : a = b := by
  induction n with
  | nil => cases ha
  | cons x n ih =>
    obtain ⟨h1, h2⟩ := List.pairwise_cons.1 h
    rcases List.mem_cons.1 ha with ea | ha'
    · rcases List.mem_cons.1 hb with eb | hb'
      · rw [ea, eb]
      · exact absurd (ea ▸ hd) (h1 b hb')
    · rcases List.mem_cons.1 hb with eb | hb'
      · exact absurd (eb ▸ hd.symm) (h1 a ha')
      · exact ih h2 ha' hb'
theorem byLate_sorted {n : List EvV} (h : unlikeM n) : (byLate n).Pairwise fun a b => ltE b a := by
  have h1 : (byLate n).Pairwise fun a b => decide (¬ ltE a b) = true := List.pairwise_mergeSort (le := fun a b => decide (¬ ltE a b))
    (fun a b c h1 h2 => by
      simp only [decide_eq_true_eq] at h1 h2 ⊢
      unfold ltE at *; omega)
    (fun a b => by
      simp only [Bool.or_eq_true, decide_eq_true_eq]
      unfold ltE; omega) n
  have h2 : (byLate n).Pairwise fun a b => dotOf a ≠ dotOf b := (List.mergeSort_perm n _).symm.pairwise h fun {a b} h => Ne.symm h
  refine (h1.and h2).imp fun {a b} ⟨p, q⟩ => ?_
  simp only [decide_eq_true_eq] at p
  exact (ltE_tot q).resolve_left p
theorem unlike_filter {n : List EvV} (h : unlikeM n) (p : EvV → Bool) : unlikeM (n.filter p) := List.Pairwise.filter p h
theorem pdot_mem {n m : List EvV} (h : ∀ v, v ∈ n ↔ v ∈ m) (e : EvV) : pdot n e = pdot m e := by
  unfold pdot
  have : (n.any (hangs e) = true) ↔ (m.any (hangs e) = true) := by
    rw [List.any_eq_true, List.any_eq_true]
    exact ⟨fun ⟨x, h1, h2⟩ => ⟨x, (h x).1 h1, h2⟩, fun ⟨x, h1, h2⟩ => ⟨x, (h x).2 h1, h2⟩⟩
  simp only [this]
theorem undD_mem {n m : List EvV} (hn : unlikeM n) (hm : unlikeM m) (h : ∀ v, v ∈ n ↔ v ∈ m) : ∀ (k : Nat) (p : Option (Int × Int)), undD n k p = undD m k p
  | 0, _ => rfl
  | k + 1, p => by
    have hk : kidsD n p = kidsD m p := late_one (byLate_sorted (unlike_filter hn _)) (byLate_sorted (unlike_filter hm _)) fun v => by
      rw [show kidsD n p = byLate _ from rfl, show kidsD m p = byLate _ from rfl, byLate_mem, byLate_mem, List.mem_filter, List.mem_filter, h v, pdot_mem h v]
    show List.flatMap _ _ = List.flatMap _ _
    rw [hk]
    congr 1
    funext e
    rw [undD_mem hn hm h k]
theorem par_dot {n : List EvV} (hn : unlikeM n) {e : EvV} {i : Nat} (hi : i < n.length) : parM n e = some i ↔ pdot n e = some (dotOf (n.getD i ev0)) := by
  have hgi : n.getD i ev0 = n[i] := by rw [List.getD_eq_getElem?_getD, List.getElem?_eq_getElem hi]; rfl
  rw [hgi]
  unfold parM pdot
  split
  · simp
  · constructor
    · intro h
      rw [List.findIdx?_eq_some_iff_getElem] at h
      obtain ⟨hk, h1, _⟩ := h
      rw [if_pos (List.any_eq_true.2 ⟨n[i], List.getElem_mem hi, h1⟩)]
      unfold hangs at h1
      rw [Bool.and_eq_true, decide_eq_true_eq] at h1
      rw [show dotOf n[i] = (e.rr, e.rn) by unfold dotOf; rw [h1.1.1, h1.1.2]]
    · intro h
      split at h
      · rename_i hany
        simp only [Option.some.injEq] at h
        obtain ⟨x, hx, hxh⟩ := List.any_eq_true.1 hany
        have hxd : dotOf x = dotOf n[i] := by
          rw [← h]
          unfold hangs at hxh
          rw [Bool.and_eq_true, decide_eq_true_eq] at hxh
          unfold dotOf; rw [hxh.1.1, hxh.1.2]
        have hxi := unlike_ltE hn hx (List.getElem_mem hi) hxd
        rw [hxi] at hxh
        rw [List.findIdx?_eq_some_iff_getElem]
        refine ⟨hi, hxh, fun j hj => ?_⟩
        intro hjh
        have hjd : dotOf n[j] = dotOf n[i] := by
          rw [← h]
          unfold hangs at hjh
          rw [Bool.and_eq_true, decide_eq_true_eq] at hjh
          unfold dotOf; rw [hjh.1.1, hjh.1.2]
        exact (List.pairwise_iff_getElem.1 hn j i (by omega) hi hj) hjd
      · cases h
theorem par_none {n : List EvV} {e : EvV} : parM n e = none ↔ pdot n e = none := by
  unfold parM pdot
  split
  · simp
  · rw [List.findIdx?_eq_none_iff]
    split
    · rename_i h
      obtain ⟨x, hx, hxh⟩ := List.any_eq_true.1 h
      simp only [reduceCtorEq, iff_false]
      intro h2
      rw [h2 x hx] at hxh; cases hxh
    · rename_i h
      simp only [iff_true]
      intro x hx
      cases hh : hangs e x with
      | false => rfl
      | true => exact absurd (List.any_eq_true.2 ⟨x, hx, hh⟩) h
theorem kids_nodup (n : List EvV) (p : Option Nat) : (kidsM n p).Nodup := List.Pairwise.filter _ List.nodup_range
theorem kids_events {n : List EvV} (hn : unlikeM n) {p : Option Nat} (hp : ∀ i, p = some i → i < n.length) :
    (sortK n (kidsM n p)).map (fun i => n.getD i ev0) = kidsD n (p.map fun i => dotOf (n.getD i ev0)) := by
  have hs := sortK_sorted n (kidsM n p) (kids_nodup n p)
  refine late_one ?_ (byLate_sorted (unlike_filter hn _)) fun v => ?_
  · rw [List.pairwise_map]
    have hmem : (sortK n (kidsM n p)).Pairwise fun i j => i ∈ sortK n (kidsM n p) ∧ j ∈ sortK n (kidsM n p) := by
      rw [List.pairwise_iff_getElem]
      intro i j hi hj _
      exact ⟨List.getElem_mem hi, List.getElem_mem hj⟩
    refine (hs.and hmem).imp fun {i j} ⟨h1, h2, h3⟩ => ?_
    have hi := (kids_mem.1 ((sortK_mem n _ i).1 h2)).1
    have hj := (kids_mem.1 ((sortK_mem n _ j).1 h3)).1
    have hne : i ≠ j := fun e => (ahead_ord n).irr _ (by rw [e] at h1; exact h1)
    have gi : n.getD i ev0 = n[i] := by rw [List.getD_eq_getElem?_getD, List.getElem?_eq_getElem hi]; rfl
    have gj : n.getD j ev0 = n[j] := by rw [List.getD_eq_getElem?_getD, List.getElem?_eq_getElem hj]; rfl
    have hd : dotOf n[i] ≠ dotOf n[j] := by
      rcases Nat.lt_or_ge i j with h | h
      · exact List.pairwise_iff_getElem.1 hn i j hi hj h
      · exact Ne.symm (List.pairwise_iff_getElem.1 hn j i hj hi (by omega))
    unfold aheadR at h1
    rw [gi, gj] at h1 ⊢
    rcases h1 with h1 | h1
    · exact h1
    · exact (ltE_tot hd).resolve_left h1.1
  · rw [show kidsD n (p.map fun i => dotOf (n.getD i ev0)) = byLate _ from rfl, byLate_mem, List.mem_filter, List.mem_map, decide_eq_true_eq]
    constructor
    · rintro ⟨i, hi, rfl⟩
      obtain ⟨h1, h2⟩ := kids_mem.1 ((sortK_mem n _ i).1 hi)
      refine ⟨by rw [List.getD_eq_getElem?_getD, List.getElem?_eq_getElem h1]; exact List.getElem_mem h1, ?_⟩
      cases p with
      | none => exact par_none.1 h2
      | some k => exact (par_dot hn (hp k rfl)).1 h2
    · rintro ⟨h1, h2⟩
      obtain ⟨i, hi, rfl⟩ := List.getElem_of_mem h1
      have gi : n.getD i ev0 = n[i] := by rw [List.getD_eq_getElem?_getD, List.getElem?_eq_getElem hi]; rfl
      refine ⟨i, (sortK_mem n _ i).2 (kids_mem.2 ⟨hi, ?_⟩), gi⟩
      rw [gi]
      cases p with
      | none => exact par_none.2 h2
      | some k => exact (par_dot hn (hp k rfl)).2 h2
theorem und_events {n : List EvV} (hn : unlikeM n) : ∀ (k : Nat) (p : Option Nat), (∀ i, p = some i → i < n.length) → (undM n k p).map (fun i => n.getD i ev0) = undD n k (p.map fun i => dotOf (n.getD i ev0))
  | 0, _, _ => rfl
  | k + 1, p, hp => by
    show List.map _ (List.flatMap _ _) = List.flatMap _ _
    rw [← kids_events hn hp, List.map_flatMap, List.flatMap_map]
    unfold List.flatMap
    congr 1
    refine List.map_congr_left fun i hi => ?_
    rw [List.map_cons, und_events hn k (some i) fun j hj => by
      cases hj; exact (kids_mem.1 ((sortK_mem n _ i).1 hi)).1]
    rfl
end Go.Proofs.YtmljgobenlpnfaaGreat
end

section
namespace Go.Proofs.YtmljgobenlpnfaaGreat
open Go.Free Go.RowKit Go.Proofs Go.Free.Sorts
inductive Anc (n : List EvV) (i : Nat) : Nat → Prop
  | here : Anc n i i
  | up {x y : Nat} : parM n (n.getD x ev0) = some y → Anc n i y → Anc n i x
theorem Anc.trans {n : List EvV} {i j x : Nat} (h1 : Anc n i j) (h2 : Anc n j x) : Anc n i x := by
  induction h2 with
  | here => exact h1
  | up h _ ih => exact .up h ih
theorem Anc.late {n : List EvV} {i x : Nat} (h : Anc n i x) : x = i ∨ ltE (n.getD i ev0) (n.getD x ev0) := by
  induction h with
  | here => exact .inl rfl
  | up h _ ih =>
    have h2 := (par_later h).2
    rcases ih with rfl | ih
    · exact .inr h2
    · exact .inr (ltE_trans ih h2)
theorem Anc.tot {n : List EvV} {i j x : Nat} (h1 : Anc n i x) (h2 : Anc n j x) : Anc n i j ∨ Anc n j i := by
  induction h1 with
  | here => exact .inr h2
  | up h h' ih =>
    cases h2 with
    | here => exact .inl (.up h h')
    | up h3 h4 =>
      rw [h] at h3
      cases h3
      exact ih h4
theorem kids_late {n : List EvV} {p : Option Nat} {i j : Nat} (hi : i ∈ kidsM n p) (hj : j ∈ kidsM n p) (h : Anc n i j) : i = j := by
  cases h with
  | here => rfl
  | up h1 h2 =>
    rename_i y
    have e1 := (kids_mem.1 hj).2
    have e2 := (kids_mem.1 hi).2
    rw [h1] at e1
    subst e1
    have h3 := (par_later e2).2
    rcases h2.late with e | h4
    · rw [e] at h3; exact absurd h3 (ltE_irr _)
    · exact absurd (ltE_trans h3 h4) (ltE_irr _)
theorem und_anc {n : List EvV} : ∀ (k : Nat) (p : Option Nat) {x : Nat}, x ∈ undM n k p → ∃ i, i ∈ kidsM n p ∧ Anc n i x
  | 0, _, _, h => by cases h
  | k + 1, p, x, h => by
    have h' : x ∈ (sortK n (kidsM n p)).flatMap fun i => i :: undM n k (some i) := h
    obtain ⟨i, hi, hx⟩ := List.mem_flatMap.1 h'
    rw [sortK_mem] at hi
    rcases List.mem_cons.1 hx with rfl | hx
    · exact ⟨_, hi, .here⟩
    · obtain ⟨j, hj, hjx⟩ := und_anc k (some i) hx
      exact ⟨i, hi, (Anc.up (kids_mem.1 hj).2 .here).trans hjx⟩
theorem und_sub_late {n : List EvV} {k i x : Nat} (h : x ∈ undM n k (some i)) : ltE (n.getD i ev0) (n.getD x ev0) := by
  obtain ⟨j, hj, hjx⟩ := und_anc k (some i) h
  have h1 := (par_later (kids_mem.1 hj).2).2
  rcases hjx.late with rfl | h2
  · exact h1
  · exact ltE_trans h1 h2
theorem und_lt {n : List EvV} : ∀ (k : Nat) (p : Option Nat) {x : Nat}, x ∈ undM n k p → x < n.length
  | 0, _, _, h => by cases h
  | k + 1, p, x, h => by
    have h' : x ∈ (sortK n (kidsM n p)).flatMap fun i => i :: undM n k (some i) := h
    obtain ⟨i, hi, hx⟩ := List.mem_flatMap.1 h'
    rw [sortK_mem] at hi
    rcases List.mem_cons.1 hx with rfl | hx
    · exact (kids_mem.1 hi).1
    · exact und_lt k _ hx
theorem kids_nodup' (n : List EvV) (p : Option Nat) : (sortK n (kidsM n p)).Nodup :=
  (List.mergeSort_perm _ _).symm.nodup (List.Pairwise.filter _ List.nodup_range)
theorem und_nodup {n : List EvV} : ∀ (k : Nat) (p : Option Nat), (undM n k p).Nodup
  | 0, _ => List.nodup_nil
  | k + 1, p => by
    show List.Pairwise _ (List.flatMap _ _)
    rw [List.pairwise_flatMap]
    refine ⟨fun i hi => ?_, ?_⟩
    · rw [List.pairwise_cons]
      refine ⟨fun x hx e => ?_, und_nodup k _⟩
      have h1 := und_sub_late hx
      rw [← e] at h1
      exact ltE_irr _ h1
    · have hnd := kids_nodup' n p
      have hm : (sortK n (kidsM n p)).Pairwise fun i j => i ∈ kidsM n p ∧ j ∈ kidsM n p := by
        rw [List.pairwise_iff_getElem]
        intro i j hi hj _
        exact ⟨(sortK_mem n _ _).1 (List.getElem_mem hi), (sortK_mem n _ _).1 (List.getElem_mem hj)⟩
      refine (hnd.and hm).imp fun {i j} ⟨hne, hi, hj⟩ => ?_
      have hin : ∀ {i x : Nat}, x ∈ i :: undM n k (some i) → Anc n i x := fun {i x} hx => by
        rcases List.mem_cons.1 hx with rfl | hx
        · exact .here
        · obtain ⟨j, hj, hjx⟩ := und_anc k _ hx
          exact (Anc.up (kids_mem.1 hj).2 .here).trans hjx
      intro x hx y hy e
      subst e
      rcases (hin hx).tot (hin hy) with h | h
      · exact hne (kids_late hi hj h)
      · exact hne (kids_late hj hi h).symm
theorem nodup_le : ∀ (m : Nat) (l : List Nat), l.Nodup → (∀ x ∈ l, x < m) → l.length ≤ m
  | 0, l, _, h => by
    cases l with
    | nil => exact Nat.le_refl _
    | cons x l => exact absurd (h x List.mem_cons_self) (Nat.not_lt_zero _)
  | m + 1, l, hn, h => by
    by_cases hm : m ∈ l
    · have h1 := nodup_le m (l.erase m) (hn.erase m) fun x hx => by
        rw [hn.mem_erase_iff] at hx
        have := h x hx.2
        have := hx.1
        omega
      rw [List.length_erase_of_mem hm] at h1
      omega
    · have h1 := nodup_le m l hn fun x hx => by
        have := h x hx
        have : x ≠ m := fun e => hm (e ▸ hx)
        omega
      omega
theorem und_len (n : List EvV) (k : Nat) (p : Option Nat) : (undM n k p).length ≤ n.length :=
  nodup_le _ _ (und_nodup k p) fun _ hx => und_lt k p hx
end Go.Proofs.YtmljgobenlpnfaaGreat
end

section
namespace Go.Free
open Go.RowKit
theorem Nrm.ret0n {P : Program} {n : Nat} {I : World → Prop} {E : Env} {fn : Func} {R : Nat → Fa} {w0 : World} {e : Exit} (hr : fn.results = #[]) (hI : ∀ w, I w → Below w0.heap.size w0 w)
    (hs : ∀ B, R B = Fa.any) (hx : e = .normal ∨ e = .ret) : Nrm n I (FnPost P fn R w0 e) E := fun a w h1 h2 _ => by
  have hres : (results fn a.tmps).run P w = .ok (.tuple #[]) w := by simp [results, hr]
  have : FnPost P fn R w0 .ret a w := ⟨h2.defers, _, hres, hI w h1, fun B _ => by rw [hs]; exact any_den _ _⟩
  rcases hx with rfl | rfl <;> exact this
end Go.Free
namespace Go.Proofs.YtmljgobenlpnfaaGreat
open Go.Free Go.RowKit Go.Proofs
end Go.Proofs.YtmljgobenlpnfaaGreat
end

section
namespace Go.Proofs.YtmljgobenlpnfaaGreat
open Go.Free Go.RowKit Go.Proofs
section
variable {α : Type}
theorem sorted_map {l : List (Dt × α)} : sortedD l ↔ (l.map (·.1)).Pairwise dlt := by unfold sortedD; rw [List.pairwise_map]
theorem sorted_one {l : List (Dt × α)} (h : sortedD l) {d : Dt} {x y : α} (hx : (d, x) ∈ l) (hy : (d, y) ∈ l) : x = y := by
  obtain ⟨i, hi, e1⟩ := List.getElem_of_mem hx
  obtain ⟨j, hj, e2⟩ := List.getElem_of_mem hy
  have g1 : l[i]? = some (d, x) := by rw [List.getElem?_eq_getElem hi, e1]
  have g2 : l[j]? = some (d, y) := by rw [List.getElem?_eq_getElem hj, e2]
  rcases Nat.lt_trichotomy i j with h1 | h1 | h1
  · exact absurd (sorted_at h g1 g2 h1) (dlt_irr _)
  · subst h1; rw [g1] at g2; cases g2; rfl
  · exact absurd (sorted_at h g2 g1 h1) (dlt_irr _)
theorem here_mem {l : List (Dt × α)} (h : sortedD l) {d : Dt} : hereD l d = true ↔ ∃ x, (d, x) ∈ l := by
  rw [hereD_iff h]
  exact ⟨fun ⟨x, hx, e⟩ => ⟨x.2, by rw [← e]; exact hx⟩, fun ⟨x, hx⟩ => ⟨_, hx, rfl⟩⟩
theorem here_not {l : List (Dt × α)} (h : sortedD l) {d : Dt} : hereD l d = false ↔ ∀ x, (d, x) ∉ l := by
  rw [← Bool.not_eq_true, here_mem h]
  exact ⟨fun hh x hx => hh ⟨x, hx⟩, fun hh ⟨x, hx⟩ => hh x hx⟩
theorem val_not {l : List (Dt × α)} {d : Dt} {z : α} (h : hereD l d = false) : valD l d z = z := by unfold valD; rw [h]; rfl
theorem sorted_put {l : List (Dt × α)} (h : sortedD l) (d : Dt) (x : α) : sortedD (putD l d x) := by
  unfold putD
  split
  · rename_i hh
    obtain ⟨y, hy, hyd⟩ := here_at hh
    obtain ⟨hp, hpe⟩ := List.getElem?_eq_some_iff.1 hy
    rw [sorted_map] at h ⊢
    have : (l.set (posD l d) (d, x)).map (·.1) = l.map (·.1) := by
      rw [List.map_set]
      refine List.ext_getElem? fun i => ?_
      rw [List.getElem?_set]
      split
      · rename_i hi
        subst hi
        rw [if_pos (by simpa using hp), List.getElem?_map, hy]
        simp [hyd]
      · rfl
    rw [this]; exact h
  · rename_i hh
    rw [Bool.not_eq_true] at hh
    have key : ∀ z : Dt × α, z ∈ l → ¬ dlt z.1 d → dlt d z.1 := fun z hz h1 => by
      rcases dlt_tri d z.1 with h2 | h2 | h2
      · exact h2
      · exact absurd hz (fun hm => (here_not h).1 hh z.2 (by rw [h2]; exact hm))
      · exact absurd h2 h1
    unfold insD sortedD
    refine List.pairwise_append.2 ⟨h.sublist (List.take_sublist _ _), List.pairwise_cons.2 ⟨fun y hy => ?_, h.sublist (List.drop_sublist _ _)⟩, fun y hy z hz => ?_⟩
    · obtain ⟨i, hi, rfl⟩ := List.getElem_of_mem hy
      rw [List.length_drop] at hi
      rw [List.getElem_drop]
      have hg : l[posD l d + i]? = some l[posD l d + i] := List.getElem?_eq_getElem (by omega)
      have h1 : ¬ dlt l[posD l d + i].1 d := fun hd => by have := (posD_lt h hg).2 hd; omega
      exact key _ (List.mem_of_getElem? hg) h1
    · have hyd : dlt y.1 d := by
        obtain ⟨i, hi, rfl⟩ := List.getElem_of_mem hy
        rw [List.length_take] at hi
        rw [List.getElem_take]
        exact (posD_lt h (List.getElem?_eq_getElem (by omega))).1 (by omega)
      rcases List.mem_cons.1 hz with rfl | hz
      · exact hyd
      · have hyz := List.pairwise_append.1 (show (l.take (posD l d) ++ l.drop (posD l d)).Pairwise (fun x y => dlt x.1 y.1) by rw [List.take_append_drop]; exact h)
        exact hyz.2.2 y hy z hz
theorem mem_put {l : List (Dt × α)} (h : sortedD l) (d : Dt) (x : α) (e : Dt) (y : α) : (e, y) ∈ putD l d x ↔ (e = d ∧ y = x) ∨ (e ≠ d ∧ (e, y) ∈ l) := by
  unfold putD
  split
  · rename_i hh
    obtain ⟨z, hz, hzd⟩ := here_at hh
    obtain ⟨hp, hpe⟩ := List.getElem?_eq_some_iff.1 hz
    constructor
    · intro hm
      obtain ⟨i, hi⟩ := List.mem_iff_getElem?.1 hm
      rw [List.getElem?_set] at hi
      split at hi
      · cases hi; exact .inl ⟨rfl, rfl⟩
      · rename_i hne
        refine .inr ⟨fun he => ?_, List.mem_of_getElem? hi⟩
        subst he
        rcases Nat.lt_trichotomy i (posD l e) with h1 | h1 | h1
        · have := sorted_at h hi hz h1; rw [hzd] at this; exact dlt_irr _ this
        · exact hne h1.symm
        · have := sorted_at h hz hi h1; rw [hzd] at this; exact dlt_irr _ this
    · rintro (⟨rfl, rfl⟩ | ⟨hne, hm⟩)
      · exact List.mem_iff_getElem?.2 ⟨posD l e, by rw [List.getElem?_set, if_pos rfl, if_pos hp]⟩
      · obtain ⟨i, hi⟩ := List.mem_iff_getElem?.1 hm
        refine List.mem_iff_getElem?.2 ⟨i, ?_⟩
        rw [List.getElem?_set, if_neg (fun he => hne ?_), hi]
        subst he; rw [hz] at hi; cases hi; exact hzd
  · rename_i hh
    rw [Bool.not_eq_true] at hh
    have hm : (e, y) ∈ l ↔ (e, y) ∈ l.take (posD l d) ∨ (e, y) ∈ l.drop (posD l d) := by rw [← List.mem_append, List.take_append_drop]
    unfold insD
    rw [List.mem_append, List.mem_cons]
    constructor
    · rintro (h1 | h1 | h1)
      · exact .inr ⟨fun he => (here_not h).1 hh y (he ▸ hm.2 (.inl h1)), hm.2 (.inl h1)⟩
      · cases h1; exact .inl ⟨rfl, rfl⟩
      · exact .inr ⟨fun he => (here_not h).1 hh y (he ▸ hm.2 (.inr h1)), hm.2 (.inr h1)⟩
    · rintro (⟨rfl, rfl⟩ | ⟨_, h1⟩)
      · exact .inr (.inl rfl)
      · rcases hm.1 h1 with h2 | h2
        · exact .inl h2
        · exact .inr (.inr h2)
theorem len_put (l : List (Dt × α)) (d : Dt) (x : α) : (putD l d x).length = if hereD l d then l.length else l.length + 1 := by
  unfold putD; split
  · rw [List.length_set]
  · rw [insD_length]
theorem len_put_le (l : List (Dt × α)) (d : Dt) (x : α) : (putD l d x).length ≤ l.length + 1 := by rw [len_put]; split <;> omega
theorem sorted_rem {l : List (Dt × α)} (h : sortedD l) (d : Dt) : sortedD (remD l d) := by
  unfold remD; split
  · exact h.sublist (List.eraseIdx_sublist _ _)
  · exact h
theorem mem_rem {l : List (Dt × α)} (h : sortedD l) (d e : Dt) (y : α) : (e, y) ∈ remD l d ↔ e ≠ d ∧ (e, y) ∈ l := by
  unfold remD
  split
  · rename_i hh
    obtain ⟨z, hz, hzd⟩ := here_at hh
    rw [List.mem_eraseIdx_iff_getElem?]
    constructor
    · rintro ⟨i, hne, hi⟩
      refine ⟨fun he => ?_, List.mem_of_getElem? hi⟩
      subst he
      rcases Nat.lt_trichotomy i (posD l e) with h1 | h1 | h1
      · have := sorted_at h hi hz h1; rw [hzd] at this; exact dlt_irr _ this
      · exact hne h1
      · have := sorted_at h hz hi h1; rw [hzd] at this; exact dlt_irr _ this
    · rintro ⟨hne, hm⟩
      obtain ⟨i, hi⟩ := List.mem_iff_getElem?.1 hm
      refine ⟨i, fun he => hne ?_, hi⟩
      subst he; rw [hz] at hi; cases hi; exact hzd
  · rename_i hh
    rw [Bool.not_eq_true] at hh
    exact ⟨fun hm => ⟨fun he => (here_not h).1 hh y (he ▸ hm), hm⟩, fun hm => hm.2⟩
theorem len_rem (l : List (Dt × α)) (d : Dt) : (remD l d).length = if hereD l d then l.length - 1 else l.length := by
  unfold remD; split
  · rename_i hh
    obtain ⟨z, hz, hzd⟩ := here_at hh
    rw [List.length_eraseIdx, if_pos (List.getElem?_eq_some_iff.1 hz).1]
  · rfl
end
end Go.Proofs.YtmljgobenlpnfaaGreat
end

section
namespace Go.Proofs.YtmljgobenlpnfaaGreat
open Go.Free Go.RowKit Go.Proofs Go.Free.Sorts
def wantP (k : Int) : Int := if k = 3 ∨ k = 4 then 3 else if k = 5 ∨ k = 6 then 5 else if k = 7 ∨ k = 8 then 7 else 0
def endsG (b a : EvV) : Prop := b.key = a.key ∧ hasP b.d a.r a.n ∧
  (if b.kind = 11 then addP a.kind else if b.kind = 1 then a.kind = 1 else if b.kind = 10 then a.kind = 9 ∧ b.rr = a.r ∧ b.rn = a.n else a.kind = wantP b.kind ∧ b.field = a.field)
instance (b a : EvV) : Decidable (endsG b a) := by unfold endsG; infer_instance
def vvOf (M : List EvV) : Nat → Int := M.foldl (fun v e i => if i = e.r.toNat then e.n else v i) fun _ => 0
theorem vv_snoc (M : List EvV) (e : EvV) : vvOf (M ++ [e]) = fun i => if i = e.r.toNat then e.n else vvOf M i := by
  unfold vvOf; rw [List.foldl_append]; rfl
def readyP (v : Nat → Int) (e : EvV) : Prop := rightP e ∧ e.n = v e.r.toNat + 1 ∧ ∀ i, i < 16 → e.d i ≤ v i
def Chain (M : List EvV) : Prop := ∀ i (hi : i < M.length), readyP (vvOf (M.take i)) M[i]
theorem chain_take {M : List EvV} (h : Chain M) (j : Nat) : Chain (M.take j) := fun i hi => by
  rw [List.length_take] at hi
  have := h i (by omega)
  rw [List.take_take, Nat.min_eq_left (by omega), List.getElem_take]
  exact this
theorem chain_nil : Chain [] := fun i hi => absurd hi (Nat.not_lt_zero _)
theorem chain_snoc {M : List EvV} {e : EvV} (h : Chain M) (he : readyP (vvOf M) e) : Chain (M ++ [e]) := fun i hi => by
  rw [List.length_append] at hi
  by_cases hlt : i < M.length
  · rw [List.take_append_of_le_length (by omega), List.getElem_append_left hlt]
    exact h i hlt
  · have : i = M.length := by simp at hi; omega
    subst this
    rw [List.take_left, List.getElem_append_right (Nat.le_refl _)]
    simpa using he
theorem chain_init {M : List EvV} {e : EvV} (h : Chain (M ++ [e])) : Chain M := by
  have := chain_take h M.length
  rw [List.take_left] at this
  exact this
theorem vv_mono {M : List EvV} {i j : Nat} (h : Chain M) (hij : i ≤ j) (k : Nat) : vvOf (M.take i) k ≤ vvOf (M.take j) k := by
  induction hij with
  | refl => exact Int.le_refl _
  | @step m hm ih =>
    refine Int.le_trans ih ?_
    by_cases hl : m < M.length
    · rw [List.take_succ_eq_append_getElem hl, vv_snoc]
      have := (h m hl).2.1
      dsimp only
      split
      · rename_i e; rw [e]; omega
      · exact Int.le_refl _
    · rw [List.take_of_length_le (i := m) (by omega), List.take_of_length_le (i := m + 1) (by omega)]; exact Int.le_refl _
theorem vv_has {M : List EvV} (h : Chain M) {i j : Nat} (hi : i < M.length) (hij : i < j) : M[i].n ≤ vvOf (M.take j) M[i].r.toNat := by
  refine Int.le_trans ?_ (vv_mono h (show i + 1 ≤ j from hij) _)
  rw [List.take_succ_eq_append_getElem hi, vv_snoc]
  simp
theorem chain_dot {M : List EvV} (h : Chain M) {i j : Nat} (hi : i < M.length) (hj : j < M.length) (hij : i < j) : dotOf M[i] ≠ dotOf M[j] := fun hd => by
  have h1 := vv_has h hi hij
  have h2 := (h j hj).2.1
  have hr := congrArg Prod.fst hd
  have hn := congrArg Prod.snd hd
  simp only [dotOf] at hr hn
  rw [hr, hn] at h1
  omega
theorem chain_unlike {M : List EvV} (h : Chain M) : unlikeM M := List.pairwise_iff_getElem.2 fun i j hi hj hij => chain_dot h hi hj hij
theorem chain_past {M : List EvV} (h : Chain M) {i j : Nat} (hi : i < M.length) (hj : j < M.length) (hij : i ≤ j) : ¬ hasP M[i].d M[j].r M[j].n := fun hh => by
  obtain ⟨⟨h1, h2, _, _⟩, h3⟩ := hh
  have h4 := (h i hi).2.2 M[j].r.toNat (by omega)
  have h5 := vv_mono h hij M[j].r.toNat
  have h6 := (h j hj).2.1
  omega
def livesP (M : List EvV) (a : EvV) : Prop := addP a.kind ∧ ∀ b ∈ M, ¬ endsG b a
instance (M : List EvV) (a : EvV) : Decidable (livesP M a) := by unfold livesP; infer_instance
theorem lives_snoc {M : List EvV} {e a : EvV} : livesP (M ++ [e]) a ↔ livesP M a ∧ ¬ endsG e a := by
  unfold livesP
  constructor
  · rintro ⟨h1, h2⟩
    exact ⟨⟨h1, fun b hb => h2 b (List.mem_append.2 (.inl hb))⟩, h2 e (by simp)⟩
  · rintro ⟨⟨h1, h2⟩, h3⟩
    refine ⟨h1, fun b hb => ?_⟩
    rcases List.mem_append.1 hb with h | h
    · exact h2 b h
    · rw [List.mem_singleton.1 h]; exact h3
theorem chain_new {M : List EvV} {e : EvV} (h : Chain (M ++ [e])) : ∀ b ∈ M ++ [e], ¬ endsG b e := fun b hb hh => by
  obtain ⟨i, hi, rfl⟩ := List.getElem_of_mem hb
  have hl : M.length < (M ++ [e]).length := by simp
  have hp := chain_past h hi hl (by simp at hi; omega)
  have he : (M ++ [e])[M.length] = e := by simp
  rw [he] at hp
  exact hp hh.2.1
structure LiveOk (M : List EvV) (k : List UInt8) (l : List (Dt × EvV)) : Prop where
  sorted : sortedD l
  mem : ∀ d x, (d, x) ∈ l ↔ x ∈ M ∧ x.key = k ∧ livesP M x ∧ d = dotOf x
structure DeadOk (M : List EvV) (k : List UInt8) (l : List (Dt × (EvV × Dt))) : Prop where
  sorted : sortedD l
  mem : ∀ d x, (∃ by_, (d, (x, by_)) ∈ l) ↔ x ∈ M ∧ x.key = k ∧ x.kind = 9 ∧ ¬ livesP M x ∧ d = dotOf x
/-! ### What an event does to a key's bags -/
def liveF (e : EvV) (its : List (Dt × EvV)) (L : List (Dt × EvV)) : List (Dt × EvV) := its.foldl (fun L x => if endsG e x.2 then remD L x.1 else L) L
def deadF (e : EvV) (its : List (Dt × EvV)) (D : List (Dt × (EvV × Dt))) : List (Dt × (EvV × Dt)) := its.foldl (fun D x => if endsG e x.2 ∧ x.2.kind = 9 then putD D x.1 (x.2, dotOf e) else D) D
theorem liveF_sorted (e : EvV) : ∀ (its L : List (Dt × EvV)), sortedD L → sortedD (liveF e its L)
  | [], _, h => h
  | x :: its, L, h => by
    show sortedD (liveF e its (if endsG e x.2 then remD L x.1 else L))
    split
    · exact liveF_sorted e its _ (sorted_rem h _)
    · exact liveF_sorted e its _ h
theorem liveF_mem (e : EvV) : ∀ (its L : List (Dt × EvV)), sortedD L → ∀ d y, (d, y) ∈ liveF e its L ↔ (d, y) ∈ L ∧ ∀ x ∈ its, endsG e x.2 → x.1 ≠ d
  | [], _, _, _, _ => ⟨fun h => ⟨h, fun _ hx => by cases hx⟩, fun h => h.1⟩
  | x :: its, L, h, d, y => by
    show (d, y) ∈ liveF e its (if endsG e x.2 then remD L x.1 else L) ↔ _
    by_cases hx : endsG e x.2
    · rw [if_pos hx, liveF_mem e its _ (sorted_rem h _), mem_rem h]
      constructor
      · rintro ⟨⟨h1, h2⟩, h3⟩
        refine ⟨h2, fun z hz hez => ?_⟩
        rcases List.mem_cons.1 hz with rfl | hz
        · exact Ne.symm h1
        · exact h3 z hz hez
      · rintro ⟨h1, h2⟩
        exact ⟨⟨Ne.symm (h2 x List.mem_cons_self hx), h1⟩, fun z hz hez => h2 z (List.mem_cons_of_mem _ hz) hez⟩
    · rw [if_neg hx, liveF_mem e its _ h]
      constructor
      · rintro ⟨h1, h2⟩
        refine ⟨h1, fun z hz hez => ?_⟩
        rcases List.mem_cons.1 hz with rfl | hz
        · exact absurd hez hx
        · exact h2 z hz hez
      · rintro ⟨h1, h2⟩
        exact ⟨h1, fun z hz hez => h2 z (List.mem_cons_of_mem _ hz) hez⟩
theorem liveF_len (e : EvV) : ∀ (its L : List (Dt × EvV)), (liveF e its L).length ≤ L.length
  | [], _ => Nat.le_refl _
  | x :: its, L => by
    show (liveF e its (if endsG e x.2 then remD L x.1 else L)).length ≤ _
    split
    · refine Nat.le_trans (liveF_len e its _) ?_
      rw [len_rem]; split <;> omega
    · exact liveF_len e its _
theorem deadF_sorted (e : EvV) : ∀ (its : List (Dt × EvV)) (D : List (Dt × (EvV × Dt))), sortedD D → sortedD (deadF e its D)
  | [], _, h => h
  | x :: its, D, h => by
    show sortedD (deadF e its (if endsG e x.2 ∧ x.2.kind = 9 then putD D x.1 (x.2, dotOf e) else D))
    split
    · exact deadF_sorted e its _ (sorted_put h _ _)
    · exact deadF_sorted e its _ h
theorem deadF_len (e : EvV) : ∀ (its : List (Dt × EvV)) (D : List (Dt × (EvV × Dt))), (deadF e its D).length ≤ D.length + its.length
  | [], _ => Nat.le_refl _
  | x :: its, D => by
    show (deadF e its (if endsG e x.2 ∧ x.2.kind = 9 then putD D x.1 (x.2, dotOf e) else D)).length ≤ _
    rw [List.length_cons]
    split
    · have h1 := deadF_len e its (putD D x.1 (x.2, dotOf e))
      have h2 := len_put_le D x.1 (x.2, dotOf e)
      omega
    · have h1 := deadF_len e its D
      omega
theorem deadF_mem (e : EvV) : ∀ (its : List (Dt × EvV)) (D : List (Dt × (EvV × Dt))), sortedD its → sortedD D → ∀ d y, (∃ b, (d, (y, b)) ∈ deadF e its D) ↔ ((d, y) ∈ its ∧ endsG e y ∧ y.kind = 9) ∨ ((∃ b, (d, (y, b)) ∈ D) ∧ ∀ x ∈ its, endsG e x.2 ∧ x.2.kind = 9 → x.1 ≠ d)
  | [], _, _, _, _, _ => ⟨fun h => .inr ⟨h, fun _ hx => by cases hx⟩, fun h => by
    rcases h with ⟨h, _⟩ | ⟨h, _⟩
    · cases h
    · exact h⟩
  | x :: its, D, hi, h, d, y => by
    obtain ⟨hi1, hi2⟩ := List.pairwise_cons.1 hi
    show (∃ b, (d, (y, b)) ∈ deadF e its (if endsG e x.2 ∧ x.2.kind = 9 then putD D x.1 (x.2, dotOf e) else D)) ↔ _
    have hxn : ∀ z ∈ its, z.1 ≠ x.1 := fun z hz e2 => dlt_irr x.1 (by have := hi1 z hz; rw [e2] at this; exact this)
    by_cases hx : endsG e x.2 ∧ x.2.kind = 9
    · rw [if_pos hx, deadF_mem e its _ hi2 (sorted_put h _ _)]
      have hput : (∃ b, (d, (y, b)) ∈ putD D x.1 (x.2, dotOf e)) ↔ (d = x.1 ∧ y = x.2) ∨ (d ≠ x.1 ∧ ∃ b, (d, (y, b)) ∈ D) := by
        constructor
        · rintro ⟨b, hb⟩
          rcases (mem_put h _ _ _ _).1 hb with ⟨h1, h2⟩ | ⟨h1, h2⟩
          · exact .inl ⟨h1, congrArg Prod.fst h2⟩
          · exact .inr ⟨h1, b, h2⟩
        · rintro (⟨h1, h2⟩ | ⟨h1, b, h2⟩)
          · exact ⟨dotOf e, (mem_put h _ _ _ _).2 (.inl ⟨h1, by rw [h2]⟩)⟩
          · exact ⟨b, (mem_put h _ _ _ _).2 (.inr ⟨h1, h2⟩)⟩
      rw [hput]
      constructor
      · rintro (⟨h1, h2⟩ | ⟨⟨rfl, rfl⟩ | ⟨h1, h2⟩, h3⟩)
        · exact .inl ⟨List.mem_cons_of_mem _ h1, h2⟩
        · exact .inl ⟨List.mem_cons_self, hx⟩
        · refine .inr ⟨h2, fun z hz hez => ?_⟩
          rcases List.mem_cons.1 hz with rfl | hz
          · exact Ne.symm h1
          · exact h3 z hz hez
      · rintro (⟨h1, h2⟩ | ⟨h1, h2⟩)
        · rcases List.mem_cons.1 h1 with rfl | h1
          · exact .inr ⟨.inl ⟨rfl, rfl⟩, fun z hz _ => hxn z hz⟩
          · exact .inl ⟨h1, h2⟩
        · exact .inr ⟨.inr ⟨Ne.symm (h2 x List.mem_cons_self hx), h1⟩, fun z hz hez => h2 z (List.mem_cons_of_mem _ hz) hez⟩
    · rw [if_neg hx, deadF_mem e its _ hi2 h]
      constructor
      · rintro (⟨h1, h2⟩ | ⟨h1, h2⟩)
        · exact .inl ⟨List.mem_cons_of_mem _ h1, h2⟩
        · refine .inr ⟨h1, fun z hz hez => ?_⟩
          rcases List.mem_cons.1 hz with rfl | hz
          · exact absurd hez hx
          · exact h2 z hz hez
      · rintro (⟨h1, h2⟩ | ⟨h1, h2⟩)
        · rcases List.mem_cons.1 h1 with rfl | h1
          · exact absurd h2 hx
          · exact .inl ⟨h1, h2⟩
        · exact .inr ⟨h1, fun z hz hez => h2 z (List.mem_cons_of_mem _ hz) hez⟩
def applyL (e : EvV) (l : List (Dt × EvV)) : List (Dt × EvV) := if addP e.kind then putD (liveF e l l) (dotOf e) e else liveF e l l
theorem live_step {M : List EvV} {e : EvV} {l : List (Dt × EvV)} (hc : Chain (M ++ [e])) (h : LiveOk M e.key l) : LiveOk (M ++ [e]) e.key (applyL e l) := by
  have hs := liveF_sorted e l l h.sorted
  have hm : ∀ d x, (d, x) ∈ liveF e l l ↔ x ∈ M ∧ x.key = e.key ∧ livesP (M ++ [e]) x ∧ d = dotOf x := fun d x => by
    rw [liveF_mem e l l h.sorted, h.mem, lives_snoc]
    constructor
    · rintro ⟨⟨h1, h2, h3, h4⟩, h5⟩
      refine ⟨h1, h2, ⟨h3, fun hx => ?_⟩, h4⟩
      exact h5 (d, x) ((h.mem d x).2 ⟨h1, h2, h3, h4⟩) hx rfl
    · rintro ⟨h1, h2, ⟨h3, h6⟩, h4⟩
      refine ⟨⟨h1, h2, h3, h4⟩, fun z hz hez hzd => ?_⟩
      have := sorted_one h.sorted ((h.mem d x).2 ⟨h1, h2, h3, h4⟩) (show (d, z.2) ∈ l by rw [← hzd]; exact hz)
      exact h6 (this ▸ hez)
  have hu := chain_unlike hc
  have hne : ∀ x ∈ M, dotOf x ≠ dotOf e := fun x hx hd => by
    have := (List.pairwise_append.1 hu).2.2 x hx e (by simp)
    exact this hd
  unfold applyL
  split
  · rename_i hadd
    refine ⟨sorted_put hs _ _, fun d x => ?_⟩
    rw [mem_put hs, hm]
    constructor
    · rintro (⟨rfl, rfl⟩ | ⟨_, h1, h2, h3, h4⟩)
      · exact ⟨by simp, rfl, ⟨hadd, chain_new hc⟩, rfl⟩
      · exact ⟨List.mem_append.2 (.inl h1), h2, h3, h4⟩
    · rintro ⟨h1, h2, h3, h4⟩
      rcases List.mem_append.1 h1 with h1 | h1
      · exact .inr ⟨by rw [h4]; exact hne x h1, h1, h2, h3, h4⟩
      · rw [List.mem_singleton] at h1
        subst h1
        exact .inl ⟨h4, rfl⟩
  · rename_i hadd
    refine ⟨hs, fun d x => ?_⟩
    rw [hm]
    constructor
    · rintro ⟨h1, h2, h3, h4⟩; exact ⟨List.mem_append.2 (.inl h1), h2, h3, h4⟩
    · rintro ⟨h1, h2, h3, h4⟩
      rcases List.mem_append.1 h1 with h1 | h1
      · exact ⟨h1, h2, h3, h4⟩
      · rw [List.mem_singleton] at h1
        subst h1
        exact absurd h3.1 hadd
theorem dead_step {M : List EvV} {e : EvV} {l : List (Dt × EvV)} {D : List (Dt × (EvV × Dt))} (hc : Chain (M ++ [e])) (h : LiveOk M e.key l) (hD : DeadOk M e.key D) : DeadOk (M ++ [e]) e.key (deadF e l D) := by
  have hu := chain_unlike (chain_init hc)
  refine ⟨deadF_sorted e l D hD.sorted, fun d x => ?_⟩
  rw [deadF_mem e l D h.sorted hD.sorted, hD.mem, h.mem, lives_snoc]
  have ha9 : ∀ x : EvV, x.kind = 9 → addP x.kind := fun x h => .inr (.inr (.inr (.inr (.inr h))))
  constructor
  · rintro (⟨⟨h1, h2, h3, h4⟩, h5, h6⟩ | ⟨⟨h1, h2, h3, h4, h5⟩, _⟩)
    · exact ⟨List.mem_append.2 (.inl h1), h2, h6, fun hh => hh.2 h5, h4⟩
    · exact ⟨List.mem_append.2 (.inl h1), h2, h3, fun hh => h4 hh.1, h5⟩
  · rintro ⟨h1, h2, h3, h4, h5⟩
    rcases List.mem_append.1 h1 with h1 | h1
    · by_cases hl : livesP M x
      · have he : endsG e x := Classical.byContradiction fun hn => h4 ⟨hl, hn⟩
        exact .inl ⟨⟨h1, h2, hl, h5⟩, he, h3⟩
      · refine .inr ⟨⟨h1, h2, h3, hl, h5⟩, fun z hz _ hzd => ?_⟩
        have hz2 := (h.mem z.1 z.2).1 hz
        have : z.2 = x := unlike_ltE hu hz2.1 h1 (by rw [← hz2.2.2.2, hzd, h5])
        exact hl (this ▸ hz2.2.2.1)
    · rw [List.mem_singleton] at h1
      subst h1
      exact absurd ⟨⟨ha9 _ h3, fun b hb => chain_new hc b (List.mem_append.2 (.inl hb))⟩, chain_new hc _ (by simp)⟩ h4
theorem live_other {M : List EvV} {e : EvV} {k : List UInt8} {l : List (Dt × EvV)} (hk : k ≠ e.key) (h : LiveOk M k l) : LiveOk (M ++ [e]) k l := by
  refine ⟨h.sorted, fun d x => ?_⟩
  rw [h.mem, lives_snoc]
  constructor
  · rintro ⟨h1, h2, h3, h4⟩
    exact ⟨List.mem_append.2 (.inl h1), h2, ⟨h3, fun hh => hk (h2.symm.trans hh.1.symm)⟩, h4⟩
  · rintro ⟨h1, h2, h3, h4⟩
    rcases List.mem_append.1 h1 with h1 | h1
    · exact ⟨h1, h2, h3.1, h4⟩
    · rw [List.mem_singleton] at h1; subst h1; exact absurd h2.symm hk
theorem dead_other {M : List EvV} {e : EvV} {k : List UInt8} {l : List (Dt × (EvV × Dt))} (hk : k ≠ e.key) (h : DeadOk M k l) : DeadOk (M ++ [e]) k l := by
  refine ⟨h.sorted, fun d x => ?_⟩
  rw [h.mem, lives_snoc]
  constructor
  · rintro ⟨h1, h2, h3, h4, h5⟩
    exact ⟨List.mem_append.2 (.inl h1), h2, h3, fun hh => h4 hh.1, h5⟩
  · rintro ⟨h1, h2, h3, h4, h5⟩
    rcases List.mem_append.1 h1 with h1 | h1
    · exact ⟨h1, h2, h3, fun hh => h4 ⟨hh, fun he => hk (h2.symm.trans he.1.symm)⟩, h5⟩
    · rw [List.mem_singleton] at h1; subst h1; exact absurd h2.symm hk
theorem live_nil (k : List UInt8) : LiveOk [] k [] := ⟨List.Pairwise.nil, fun d x => by simp⟩
theorem dead_nil (k : List UInt8) : DeadOk [] k [] := ⟨List.Pairwise.nil, fun d x => by simp⟩
end Go.Proofs.YtmljgobenlpnfaaGreat
end

section
namespace Go.Proofs.YtmljgobenlpnfaaGreat
open Go.Free Go.RowKit Go.Proofs Go.Free.Sorts
def typP (k : Int) : Int := if k = 1 then 1 else if k = 2 then 2 else if k = 3 then 3 else if k = 5 then 4 else if k = 7 then 5 else if k = 9 then 6 else 0
def allU (L : List EvV) : List EvV := L.filter fun a => decide (livesP L a)
def sortE (L : List EvV) : List EvV := (byLate L).reverse
def ownK (key : List UInt8) (L : List EvV) : List EvV := L.filter fun e => decide (e.key = key)
def typeV (l : List EvV) : Int := match l.getLast? with | none => 0 | some e => typP e.kind
def liveK (L : List EvV) (key : List UInt8) : List EvV := sortE (allU (ownK key L))
def typeM (L : List EvV) (key : List UInt8) : Int := typeV (liveK L key)
def ofM (L : List EvV) (key : List UInt8) : List EvV := (liveK L key).filter fun e => decide (typP e.kind = typeM L key)
theorem sortE_mem {L : List EvV} {v : EvV} : v ∈ sortE L ↔ v ∈ L := by unfold sortE; rw [List.mem_reverse, byLate_mem]
theorem sortE_ext {L M : List EvV} (hl : unlikeM L) (hm : unlikeM M) (h : ∀ v, v ∈ L ↔ v ∈ M) : sortE L = sortE M := by
  unfold sortE
  rw [late_one (byLate_sorted hl) (byLate_sorted hm) fun v => by rw [byLate_mem, byLate_mem, h v]]
theorem sortE_len (L : List EvV) : (sortE L).length = L.length := by
  unfold sortE
  rw [List.length_reverse]
  exact (List.mergeSort_perm L _).length_eq
theorem sortE_perm (L : List EvV) : (sortE L).Perm L := (List.reverse_perm _).trans (List.mergeSort_perm L _)
theorem sortE_unlike {L : List EvV} (h : unlikeM L) : unlikeM (sortE L) := (sortE_perm L).symm.pairwise h fun {a b} h => Ne.symm h
theorem ends_key {b a : EvV} (h : endsG b a) : b.key = a.key := h.1
theorem all_own {M : List EvV} {key : List UInt8} {a : EvV} : a ∈ allU (ownK key M) ↔ a ∈ M ∧ a.key = key ∧ livesP M a := by
  unfold allU ownK
  rw [List.mem_filter, List.mem_filter, decide_eq_true_eq, decide_eq_true_eq]
  constructor
  · rintro ⟨⟨h1, h2⟩, h3, h4⟩
    refine ⟨h1, h2, h3, fun b hb hh => h4 b (List.mem_filter.2 ⟨hb, ?_⟩) hh⟩
    rw [decide_eq_true_eq, ends_key hh, h2]
  · rintro ⟨h1, h2, h3, h4⟩
    exact ⟨⟨h1, h2⟩, h3, fun b hb => h4 b (List.mem_filter.1 hb).1⟩
theorem all_unlike {M : List EvV} (h : unlikeM M) (key : List UInt8) : unlikeM (allU (ownK key M)) := unlike_filter (unlike_filter h _) _
def evsB (l : List (Dt × EvV)) : List EvV := l.map (·.2)
theorem bag_mem {M : List EvV} {k : List UInt8} {l : List (Dt × EvV)} (h : LiveOk M k l) {a : EvV} : a ∈ evsB l ↔ a ∈ M ∧ a.key = k ∧ livesP M a := by
  unfold evsB
  rw [List.mem_map]
  constructor
  · rintro ⟨⟨d, x⟩, hx, rfl⟩
    have := (h.mem d x).1 hx
    exact ⟨this.1, this.2.1, this.2.2.1⟩
  · rintro ⟨h1, h2, h3⟩
    exact ⟨(dotOf a, a), (h.mem _ _).2 ⟨h1, h2, h3, rfl⟩, rfl⟩
theorem bag_unlike {M : List EvV} {k : List UInt8} {l : List (Dt × EvV)} (h : LiveOk M k l) : unlikeM (evsB l) := by
  unfold evsB unlikeM
  rw [List.pairwise_map]
  have hm : l.Pairwise fun a b => a ∈ l ∧ b ∈ l := by
    rw [List.pairwise_iff_getElem]
    intro i j hi hj _
    exact ⟨List.getElem_mem hi, List.getElem_mem hj⟩
  have hs : l.Pairwise fun x y => dlt x.1 y.1 := h.sorted
  refine (hs.and hm).imp fun {a b} ⟨h1, h2, h3⟩ hd => ?_
  have ha := ((h.mem a.1 a.2).1 h2).2.2.2
  have hb := ((h.mem b.1 b.2).1 h3).2.2.2
  rw [ha, hb, hd] at h1
  exact dlt_irr _ h1
theorem bag_own {M : List EvV} {k : List UInt8} {l : List (Dt × EvV)} (h : LiveOk M k l) : ownK k (evsB l) = evsB l := by
  unfold ownK
  exact List.filter_eq_self.2 fun a ha => by rw [decide_eq_true_eq]; exact ((bag_mem h).1 ha).2.1
theorem bag_all {M : List EvV} {k : List UInt8} {l : List (Dt × EvV)} (h : LiveOk M k l) : allU (evsB l) = evsB l := by
  unfold allU
  refine List.filter_eq_self.2 fun a ha => ?_
  rw [decide_eq_true_eq]
  have h1 := (bag_mem h).1 ha
  exact ⟨h1.2.2.1, fun b hb => h1.2.2.2 b ((bag_mem h).1 hb).1⟩
theorem bag_live {M : List EvV} {k : List UInt8} {l : List (Dt × EvV)} (hu : unlikeM M) (h : LiveOk M k l) : liveK (evsB l) k = liveK M k := by
  unfold liveK
  rw [bag_own h, bag_all h]
  exact sortE_ext (bag_unlike h) (all_unlike hu k) fun v => by rw [bag_mem h, all_own]
theorem bag_type {M : List EvV} {k : List UInt8} {l : List (Dt × EvV)} (hu : unlikeM M) (h : LiveOk M k l) : typeM (evsB l) k = typeM M k := by
  unfold typeM; rw [bag_live hu h]
/-! ### Lists -/
theorem order_dots2 {key : List UInt8} {L : List EvV} (hu : unlikeM (nodesM key L)) {K : Nat} (hK : (nodesM key L).length < K) : orderM key L = undD (nodesM key L) K none := by
  unfold orderM
  have hm := mu_le (nodesM key L) none
  rw [und_enough ((nodesM key L).length + 1) K none (by omega) (by omega)]
  exact und_events hu K none (fun i h => by cases h)
theorem order_nodes {key : List UInt8} {L M : List EvV} (hl : unlikeM (nodesM key L)) (hm : unlikeM (nodesM key M)) (h : ∀ v, v ∈ nodesM key L ↔ v ∈ nodesM key M) : orderM key L = orderM key M := by
  rw [order_dots2 hl (K := (nodesM key L).length + (nodesM key M).length + 1) (by omega), order_dots2 hm (K := (nodesM key L).length + (nodesM key M).length + 1) (by omega)]
  exact undD_mem hl hm h _ _
def evsT (D : List (Dt × (EvV × Dt))) : List EvV := D.map fun x => x.2.1
theorem list_order {M : List EvV} {k : List UInt8} {l : List (Dt × EvV)} {D : List (Dt × (EvV × Dt))} (hu : unlikeM M) (h : LiveOk M k l) (hD : DeadOk M k D) (ht : typeM M k = 6) : orderM k (ofM (evsB l) k ++ evsT D) = orderM k M := by
  have hof : ∀ v, v ∈ ofM (evsB l) k ↔ v ∈ M ∧ v.key = k ∧ livesP M v ∧ v.kind = 9 := fun v => by
    unfold ofM
    rw [List.mem_filter, bag_type hu h, ht, bag_live hu h, decide_eq_true_eq]
    unfold liveK
    rw [sortE_mem, all_own]
    have : typP v.kind = 6 ↔ v.kind = 9 := by unfold typP; repeat' split <;> omega
    rw [this]
    constructor
    · rintro ⟨⟨h1, h2, h3⟩, h4⟩; exact ⟨h1, h2, h3, h4⟩
    · rintro ⟨h1, h2, h3, h4⟩; exact ⟨⟨h1, h2, h3⟩, h4⟩
  have hdm : ∀ v, v ∈ evsT D ↔ v ∈ M ∧ v.key = k ∧ v.kind = 9 ∧ ¬ livesP M v := fun v => by
    unfold evsT
    rw [List.mem_map]
    constructor
    · rintro ⟨⟨d, x, b⟩, hx, rfl⟩
      have := (hD.mem d x).1 ⟨b, hx⟩
      exact ⟨this.1, this.2.1, this.2.2.1, this.2.2.2.1⟩
    · rintro ⟨h1, h2, h3, h4⟩
      obtain ⟨b, hb⟩ := (hD.mem (dotOf v) v).2 ⟨h1, h2, h3, h4, rfl⟩
      exact ⟨_, hb, rfl⟩
  have hdu : unlikeM (evsT D) := by
    unfold evsT unlikeM
    rw [List.pairwise_map]
    have hm : D.Pairwise fun a b => a ∈ D ∧ b ∈ D := by
      rw [List.pairwise_iff_getElem]
      intro i j hi hj _
      exact ⟨List.getElem_mem hi, List.getElem_mem hj⟩
    have hs : D.Pairwise fun x y => dlt x.1 y.1 := hD.sorted
    refine (hs.and hm).imp fun {a b} ⟨h1, h2, h3⟩ hd => ?_
    have ha := ((hD.mem a.1 a.2.1).1 ⟨a.2.2, h2⟩).2.2.2.2
    have hb := ((hD.mem b.1 b.2.1).1 ⟨b.2.2, h3⟩).2.2.2.2
    rw [ha, hb, hd] at h1
    exact dlt_irr _ h1
  have hou : unlikeM (ofM (evsB l) k) := unlike_filter (sortE_unlike (all_unlike (bag_unlike h) k)) _
  have hlu : unlikeM (ofM (evsB l) k ++ evsT D) := List.pairwise_append.2 ⟨hou, hdu, fun x hx y hy hd => by
    have h1 := (hof x).1 hx
    have h2 := (hdm y).1 hy
    have := unlike_ltE hu h1.1 h2.1 hd
    exact h2.2.2.2 (this ▸ h1.2.2.1)⟩
  refine order_nodes (unlike_filter hlu _) (unlike_filter hu _) fun v => ?_
  unfold nodesM
  rw [List.mem_filter, List.mem_filter, List.mem_append, hof, hdm, decide_eq_true_eq]
  constructor
  · rintro ⟨h1 | h1, h2⟩
    · exact ⟨h1.1, h2⟩
    · exact ⟨h1.1, h2⟩
  · rintro ⟨h1, h2, h3⟩
    refine ⟨?_, h2, h3⟩
    by_cases hv : livesP M v
    · exact .inl ⟨h1, h3, hv, h2⟩
    · exact .inr ⟨h1, h3, h2, hv⟩
end Go.Proofs.YtmljgobenlpnfaaGreat
end

section
namespace Go.Free
open Go.RowKit
theorem SpcR.introOld {P : Program} {f : FuncId} {fn : Func} {body : Code} {As : List Fa} {c : Chunk} {R : Nat → Fa} (hf : P.funcs[f]? = some fn) (hb : fn.body = some body) (hsz : As.length ≤ fn.ntmps)
    (h : ∀ w0, J P fn.ntmps (fun w => Below w0.heap.size w0 w) body (FnPost P fn R w0) ((999, .old w0 (heap (fun _ => True) [c])) :: envArgs w0 As 0)) : SpcR P f As c R := by
  intro w args F hd hc
  have hlen : args.length = As.length := dens_len w As args hd
  refine calls_of_wp hf hb ?_
  refine wp_mono (h w _ w (Below.refl _ _) ⟨by simp [hlen]; omega, rfl⟩ ?_) ?_
  · intro t f' hf'
    simp only [look] at hf'
    by_cases ht : 999 = t
    · rw [if_pos ht] at hf'
      cases hf'
      simp only [Fa.den]
      exact ⟨_, Lies.one hc, fun q b hb => trivial⟩
    · rw [if_neg ht] at hf'
      exact envArgs_sat (vs := args) hd (fun j v hj => frame_args j v hj) t f' hf'
  · rintro e a w' hq
    cases e <;> simp only [FnPost] at hq <;> first | exact hq.elim | skip
    all_goals
      obtain ⟨h1, v, h2, h3, h4⟩ := hq
      exact ⟨h1, v, h2, v, rfl, h3, h4⟩
theorem J.heapAgain {P : Program} {n : Nat} {I : World → Prop} {c : Code} {Q : Exit → Act → World → Prop} {E : Env} {w0 : World} {A : Nat → Prop} {H : List Chunk} (key : Nat) (hI : ∀ w, I w → Below w0.heap.size w0 w) (hk : look E 999 = some (.old w0 (heap A H))) (h : J P n I c Q ((key, heap A H) :: E)) : J P n I c Q E := fun a w h1 h2 h3 => by
  have h4 := h3 999 _ hk
  simp only [Fa.den] at h4
  obtain ⟨φ, hL, hA⟩ := Fa.mono (heap A H) w0 w (a.slot 999) (hI w h1) h4
  exact h a w h1 h2 (heap_put h3 hL hA)
end Go.Free
end

section
namespace Go.Proofs.YtmljgobenlpnfaaGreat
open Go.Free Go.RowKit Go.Proofs Go.Free.Sorts
set_option maxHeartbeats 8000000
theorem formedDtR (zs : Array Value) (h : zs.size = 2) : (Value.agg zs).formed Tryz.prog 34 = true := by
  have hc : Tryz.prog.cellsOf 34 = 2 := by kernel_rfl
  unfold Value.formed
  rw [Tryz.underlying34]
  simp only [hc, h]
  rfl
def okD (d : Dt) : Prop := in64 d.1 ∧ in64 d.2
theorem Plan.eqlDt {ops : Array Oper} {Q : Exit → Act → World → Prop} {n : Nat} {I : World → Prop} {k i : Nat} {E : Env} {o : Oper} {d : Bool} {x y : Operand} {yt : TypeId} (a b : Dt) (ho : ops[i]? = some o) (hop : o.op = .binOp .eql 34 x y yt) (hg : wantB ops E o = some true)
    (hx : opF E x = some (.ex (aggD a.1 a.2))) (hy : opF E y = some (.ex (aggD b.1 b.2))) (ha : okD a) (hb : okD b)
    (h : Plan Tryz.prog ops Q n I d k (i + 1) (setE o.dst (.ex (.bool (decide (a = b)))) E)) : Plan Tryz.prog ops Q n I d (k + 1) i E :=
  Plan.eqAgg (m := 9) (l := [.int .i64, .int .i64]) (xs := [vi a.1, vi a.2]) (ys := [vi b.1, vi b.2]) (r := decide (a = b)) ho hop hg hx hy (by decide) (by kernel_rfl) (by kernel_rfl) (by kernel_rfl)
    ⟨_, _, rfl, intF ha.1, _, _, rfl, intF ha.2, rfl⟩ ⟨_, _, rfl, intF hb.1, _, _, rfl, intF hb.2, rfl⟩ formedDtR (by obtain ⟨a1, a2⟩ := a; obtain ⟨b1, b2⟩ := b; simp) (.inl ⟨rfl, rfl⟩) h
theorem Plan.neqDt {ops : Array Oper} {Q : Exit → Act → World → Prop} {n : Nat} {I : World → Prop} {k i : Nat} {E : Env} {o : Oper} {d : Bool} {x y : Operand} {yt : TypeId} (a b : Dt) (ho : ops[i]? = some o) (hop : o.op = .binOp .neq 34 x y yt) (hg : wantB ops E o = some true)
    (hx : opF E x = some (.ex (aggD a.1 a.2))) (hy : opF E y = some (.ex (aggD b.1 b.2))) (ha : okD a) (hb : okD b)
    (h : Plan Tryz.prog ops Q n I d k (i + 1) (setE o.dst (.ex (.bool (!decide (a = b)))) E)) : Plan Tryz.prog ops Q n I d (k + 1) i E :=
  Plan.eqAgg (m := 9) (l := [.int .i64, .int .i64]) (xs := [vi a.1, vi a.2]) (ys := [vi b.1, vi b.2]) (r := decide (a = b)) ho hop hg hx hy (by decide) (by kernel_rfl) (by kernel_rfl) (by kernel_rfl)
    ⟨_, _, rfl, intF ha.1, _, _, rfl, intF ha.2, rfl⟩ ⟨_, _, rfl, intF hb.1, _, _, rfl, intF hb.2, rfl⟩ formedDtR (by obtain ⟨a1, a2⟩ := a; obtain ⟨b1, b2⟩ := b; simp) (.inr ⟨rfl, rfl⟩) h
theorem hang_fn (ε : Nat) (e x : EvV) (he : e.okV) (hx : x.okV) : SpcR Tryz.prog 98 [.ex (aggE x), .ex (ptr ε)] (obj ε e.enc) fun _ => .ex (.bool (hangs e x)) := by
  refine SpcR.introOld Tryz.func98 rfl (Nat.le_of_ble_eq_true rfl) fun w0 => ?_
  have hI := hIb w0
  have hA := Own.below w0
  refine J.heap0 1001 (newB w0) ?_
  refine J.seq (J.region mixed hI (by kernel_rfl) ?_)
  refine Plan.boxC (key := 1001) rfl rfl rfl (by intro _ e; cases e; decide) rfl rfl hA fun α => ?_
  repeat (refine Plan.assign rfl rfl rfl rfl ?_)
  refine J.heapAgain 1000 (fun _ h => h) rfl ?_
  refine J.seq (J.region mixed hI (by kernel_rfl) ?_)
  repeat (refine Plan.fieldC rfl rfl rfl rfl (by first | exact Tryz.underlying58 | exact Tryz.underlying40) rfl (by kernel_rfl) (by exact (rfl : _ = 0)) ?_)
  refine Plan.loadAggC (key := 1001) (q := 0) (vs := [vi x.r, vi x.n]) rfl rfl rfl rfl rfl rfl (obj_reads rfl) Tryz.underlying34 rfl (by kernel_rfl) (by decide) ?_
  repeat (refine Plan.fieldC rfl rfl rfl rfl (by first | exact Tryz.underlying58 | exact Tryz.underlying40 | exact Tryz.underlying38) rfl (by kernel_rfl) (by first | exact (rfl : _ = 19) | exact (rfl : _ = 24)) ?_)
  refine Plan.loadAggC (key := 1000) (q := 0) (vs := [vi e.rr, vi e.rn]) rfl rfl rfl rfl rfl rfl (obj_reads rfl) Tryz.underlying34 rfl (by kernel_rfl) (by decide) ?_
  refine Plan.eqlDt (x.r, x.n) (e.rr, e.rn) rfl rfl rfl rfl rfl ⟨hx.1, hx.2.1⟩ ⟨he.2.2.2.2.2.2.2.2.2.1, he.2.2.2.2.2.2.2.2.2.2⟩ ?_
  by_cases hd : x.r = e.rr ∧ x.n = e.rn
  · refine Plan.boolv (y := true) (by simp [hd]) ?_
    repeat (refine Plan.move rfl rfl rfl rfl ?_)
    refine Plan.loadAggC (key := 1000) (q := 0) (vs := e.enc) rfl rfl rfl rfl rfl rfl obj_whole Tryz.underlying40 rfl (by rw [encE]; kernel_rfl) (by decide) ?_
    refine Plan.loadAggC (key := 1001) (q := 0) (vs := x.enc) rfl rfl rfl rfl rfl rfl obj_whole Tryz.underlying40 rfl (by rw [encE]; kernel_rfl) (by decide) ?_
    refine Plan.call (B := w0.heap.size) rfl rfl rfl (later_fn e x) Tryz.func99 rfl rfl (hBb w0) (by repeat (first | exact Opnds.nil | refine Opnds.cons rfl (by exact Sub.refl _) ?_)) ?_
    repeat (first | refine Plan.assign rfl rfl rfl rfl ?_ | refine Plan.pick rfl rfl rfl rfl rfl ?_)
    have h1 : hangs e x = later e x := by unfold hangs; rw [decide_eq_true hd]; rfl
    rw [h1]
    exact J.ret (Nrm.ret1 rfl (fun _ h => h) rfl fun B _ => Sub.refl _)
  · refine Plan.boolv (y := false) (by simp; intro h; exact fun h2 => hd ⟨h, h2⟩) ?_
    repeat (first | refine Plan.move rfl rfl rfl rfl ?_ | refine Plan.assign rfl rfl rfl rfl ?_ | refine Plan.skip rfl rfl ?_ | refine Plan.pick rfl rfl rfl rfl rfl ?_)
    have h1 : hangs e x = false := by unfold hangs; rw [decide_eq_false hd]; rfl
    rw [h1]
    exact J.ret (Nrm.ret1 rfl (fun _ h => h) rfl fun B _ => Sub.refl _)
def idxM (n : List EvV) (e : EvV) : Int := match n.findIdx? (hangs e) with | some j => (j : Int) | none => -1
theorem ixh_found {n : List EvV} {e : EvV} {j : Nat} (hj : j < n.length) (hp : hangs e n[j] = true) (h : ∀ i (hi : i < n.length), i < j → hangs e n[i] = false) : idxM n e = j := by
  have : n.findIdx? (hangs e) = some j := List.findIdx?_eq_some_iff_getElem.2 ⟨hj, hp, fun i hi => by rw [h i (by omega) hi]; simp⟩
  unfold idxM; rw [this]
theorem ixh_none {n : List EvV} {e : EvV} (h : ∀ i (hi : i < n.length), hangs e n[i] = false) : idxM n e = -1 := by
  have : n.findIdx? (hangs e) = none := List.findIdx?_eq_none_iff.2 fun x hx => by
    obtain ⟨i, hi, rfl⟩ := List.getElem_of_mem hx
    exact h i hi
  unfold idxM; rw [this]
def ixE (ε g cap : Nat) (n : List EvV) (e : EvV) (i : Nat) : Env :=
  [(0, .ex (.slice (some ⟨g, 0, none⟩) n.length cap)), (1, .ex (fnV 98 [ptr ε])), (7, .ex (vi n.length)), (8, .ex (vi i)), (1000, heap (fun _ => True) [rowEv (some ⟨g, 0, none⟩) n.length cap (evsC n), obj ε e.enc])]
theorem index_fn (ε g cap : Nat) (n : List EvV) (e : EvV) (hn : n.length ≤ 1000000) (hok : ∀ x ∈ n, x.okV) (he : e.okV) :
    SpcR Tryz.prog 72 [.ex (.slice (some ⟨g, 0, none⟩) n.length cap), .ex (fnV 98 [ptr ε])] (allC [rowEv (some ⟨g, 0, none⟩) n.length cap (evsC n), obj ε e.enc]) fun _ => .ex (vi (idxM n e)) := by
  refine SpcR.intro Tryz.func72 rfl (Nat.le_of_ble_eq_true rfl) fun w0 => ?_
  have hI := hIb w0
  refine J.open1 (key := 1000) rfl ?_
  refine J.seq (J.region mixed hI (by kernel_rfl) ?_)
  repeat (refine Plan.assign rfl rfl rfl rfl ?_)
  refine J.seq (J.seq (J.region mixed hI (by kernel_rfl) ?_))
  repeat (first | refine Plan.move rfl rfl rfl rfl ?_ | refine Plan.lenE rfl rfl rfl rfl (by first | exact Tryz.underlying56 | exact Tryz.underlying22) ?_)
  refine J.block (J.loop (ixE ε g cap n e) (fun i => i ≤ n.length ∧ ∀ j (hj : j < n.length), j < i → hangs e n[j] = false) (fun i => n.length - i) 0 ⟨Nat.zero_le _, fun j _ h => by omega⟩ ?_ ?_)
  · repeat (first | exact Weak.nil | refine Weak.cons rfl (Sub.refl _) ?_)
  rintro i ⟨hi, hno⟩
  refine J.seq (J.region mixed hI (by kernel_rfl) ?_)
  repeat ((refine Plan.ints rfl rfl rfl rfl rfl rfl ?_; (skip)))
  refine J.seq (J.condD rfl (fun hc => ?_) (fun hc => ?_))
  · have hlt : i < n.length := by omega
    refine J.skip ?_
    refine J.seq (J.block ?_)
    refine J.seq (J.region mixed hI (by kernel_rfl) ?_)
    repeat (first | refine Plan.move rfl rfl rfl rfl ?_ | refine Plan.assign rfl rfl rfl rfl ?_)
    refine J.seq (J.region mixed hI (by kernel_rfl) ?_)
    repeat (refine Plan.move rfl rfl rfl rfl ?_)
    refine Plan.indexC (off := i * 26) rfl rfl rfl rfl rfl eltE hlt (by omega) ?_
    refine Plan.loadAggC (key := 1000) (q := 0) (off := i * 26) (vs := n[i].enc) rfl rfl rfl rfl rfl rfl (row_reads (evs_at n hlt)) Tryz.underlying40 rfl (by rw [encE]; kernel_rfl) (by decide) ?_
    refine Plan.callFR (key := 1000) (B := 0) (fs := [.ex (aggE n[i])]) (caps := [ptr ε]) rfl rfl rfl rfl (hang_fn ε e n[i] he (hok _ (List.getElem_mem hlt))) Tryz.func98 rfl rfl (fun _ _ => Nat.zero_le _) (Opnds.cons rfl (Sub.refl _) Opnds.nil) rfl (Ent.right.trans Ent.left) (by decide) ?_
    repeat (fail)
    cases hh : hangs e n[i] with
    | true =>
      refine J.condT rfl ?_
      refine J.seq (J.region mixed hI (by kernel_rfl) ?_)
      repeat (first | refine Plan.move rfl rfl rfl rfl ?_ | refine Plan.assign rfl rfl rfl rfl ?_)
      rw [ixh_found hlt hh hno]
      exact J.ret (Nrm.ret1 rfl (fun _ h => h) rfl fun B _ => Sub.refl _)
    | false =>
      refine J.condF rfl ?_
      refine J.skip ?_
      refine J.region mixed hI (by kernel_rfl) ?_
      repeat (first | refine Plan.move rfl rfl rfl rfl ?_ | (refine Plan.ints rfl rfl rfl rfl rfl rfl ?_; (refine Plan.int (i64r (by omega)) ?_)))
      refine Plan.int (y := ((i + 1 : Nat) : Int)) (by omega) ?_
      repeat (fail)
      refine Nrm.next (i + 1) ⟨hlt, fun j hj hji => ?_⟩ (by omega) (by repeat (first | exact Weak.nil | refine Weak.cons rfl (Sub.refl _) ?_))
      by_cases hje : j = i
      · subst hje; exact hh
      · exact hno j hj (by omega)
  · have hie : i = n.length := by omega
    refine J.exit ?_
    refine J.seq (J.region mixed hI (by kernel_rfl) ?_)
    repeat (refine Plan.assign rfl rfl rfl rfl ?_)
    rw [ixh_none fun j hj => hno j hj (by omega)]
    exact J.ret (Nrm.ret1 rfl (fun _ h => h) rfl fun B _ => Sub.refl _)
def cmpV (n : List EvV) (x y : Nat) : Int := if later (n.getD x ev0) (n.getD y ev0) = true then -1 else if later (n.getD y ev0) (n.getD x ev0) = true then 1 else 0
abbrev cellS (β g m cap : Nat) : Chunk := obj β [.slice (some ⟨g, 0, none⟩) m cap]
abbrev nC (β g cap : Nat) (n : List EvV) : Chunk := allC [cellS β g n.length cap, rowEv (some ⟨g, 0, none⟩) n.length cap (evsC n)]
theorem cmp_fn (β g cap : Nat) (n : List EvV) (x y : Nat) (hx : x < n.length) (hy : y < n.length) :
    SpcR Tryz.prog 101 [.ex (vi x), .ex (vi y), .ex (ptr β)] (nC β g cap n) fun _ => .ex (vi (cmpV n x y)) := by
  refine SpcR.intro Tryz.func101 rfl (Nat.le_of_ble_eq_true rfl) fun w0 => ?_
  have hI := hIb w0
  refine J.open1 (key := 1000) rfl ?_
  refine J.seq (J.region mixed hI (by kernel_rfl) ?_)
  repeat (refine Plan.assign rfl rfl rfl rfl ?_)
  refine J.seq (J.block ?_)
  refine J.seq (J.region mixed hI (by kernel_rfl) ?_)
  repeat (first | refine Plan.move rfl rfl rfl rfl ?_ | refine Plan.loadC (key := 1000) (q := 0) rfl rfl rfl rfl rfl rfl (obj_reads1 rfl) (by first | exact Tryz.underlying3 | exact Tryz.underlying22) (by rfl) (by decide) ?_)
  refine Plan.indexC (off := x * 26) rfl rfl rfl rfl rfl eltE hx (by omega) ?_
  refine Plan.loadAggC (key := 1000) (q := 1) (off := x * 26) (vs := (n.getD x ev0).enc) rfl rfl rfl rfl rfl rfl (row_reads (evs_atD n hx)) Tryz.underlying40 rfl (by rw [encE]; kernel_rfl) (by decide) ?_
  repeat (first | refine Plan.move rfl rfl rfl rfl ?_ | refine Plan.loadC (key := 1000) (q := 0) rfl rfl rfl rfl rfl rfl (obj_reads1 rfl) (by first | exact Tryz.underlying3 | exact Tryz.underlying22) (by rfl) (by decide) ?_)
  refine Plan.indexC (off := y * 26) rfl rfl rfl rfl rfl eltE hy (by omega) ?_
  refine Plan.loadAggC (key := 1000) (q := 1) (off := y * 26) (vs := (n.getD y ev0).enc) rfl rfl rfl rfl rfl rfl (row_reads (evs_atD n hy)) Tryz.underlying40 rfl (by rw [encE]; kernel_rfl) (by decide) ?_
  refine Plan.call (B := w0.heap.size) rfl rfl rfl (later_fn (n.getD x ev0) (n.getD y ev0)) Tryz.func99 rfl rfl (hBb w0) (by repeat (first | exact Opnds.nil | refine Opnds.cons rfl (by exact Sub.refl _) ?_)) ?_
  repeat (refine Plan.assign rfl rfl rfl rfl ?_)
  cases h1 : later (n.getD x ev0) (n.getD y ev0) with
  | true =>
    refine J.condT rfl ?_
    refine J.seq (J.region mixed hI (by kernel_rfl) ?_)
    repeat (refine Plan.assign rfl rfl rfl rfl ?_)
    have e : cmpV n x y = -1 := by unfold cmpV; rw [if_pos h1]
    rw [e]
    exact J.ret (Nrm.ret1 rfl (fun _ h => h) rfl fun B _ => Sub.refl _)
  | false =>
    refine J.condF rfl ?_
    refine J.seq (J.region mixed hI (by kernel_rfl) ?_)
    repeat (first | refine Plan.move rfl rfl rfl rfl ?_ | refine Plan.loadC (key := 1000) (q := 0) rfl rfl rfl rfl rfl rfl (obj_reads1 rfl) (by first | exact Tryz.underlying3 | exact Tryz.underlying22) (by rfl) (by decide) ?_)
    refine Plan.indexC (off := y * 26) rfl rfl rfl rfl rfl eltE hy (by omega) ?_
    refine Plan.loadAggC (key := 1000) (q := 1) (off := y * 26) (vs := (n.getD y ev0).enc) rfl rfl rfl rfl rfl rfl (row_reads (evs_atD n hy)) Tryz.underlying40 rfl (by rw [encE]; kernel_rfl) (by decide) ?_
    repeat (first | refine Plan.move rfl rfl rfl rfl ?_ | refine Plan.loadC (key := 1000) (q := 0) rfl rfl rfl rfl rfl rfl (obj_reads1 rfl) (by first | exact Tryz.underlying3 | exact Tryz.underlying22) (by rfl) (by decide) ?_)
    refine Plan.indexC (off := x * 26) rfl rfl rfl rfl rfl eltE hx (by omega) ?_
    refine Plan.loadAggC (key := 1000) (q := 1) (off := x * 26) (vs := (n.getD x ev0).enc) rfl rfl rfl rfl rfl rfl (row_reads (evs_atD n hx)) Tryz.underlying40 rfl (by rw [encE]; kernel_rfl) (by decide) ?_
    refine Plan.call (B := w0.heap.size) rfl rfl rfl (later_fn (n.getD y ev0) (n.getD x ev0)) Tryz.func99 rfl rfl (hBb w0) (by repeat (first | exact Opnds.nil | refine Opnds.cons rfl (by exact Sub.refl _) ?_)) ?_
    repeat (refine Plan.assign rfl rfl rfl rfl ?_)
    cases h2 : later (n.getD y ev0) (n.getD x ev0) with
    | true =>
      refine J.condT rfl ?_
      refine J.seq (J.region mixed hI (by kernel_rfl) ?_)
      repeat (refine Plan.assign rfl rfl rfl rfl ?_)
      have e : cmpV n x y = 1 := by unfold cmpV; rw [if_neg (by rw [h1]; simp), if_pos h2]
      rw [e]
      exact J.ret (Nrm.ret1 rfl (fun _ h => h) rfl fun B _ => Sub.refl _)
    | false =>
      refine J.condF rfl ?_
      refine J.skip ?_
      refine J.seq (J.region mixed hI (by kernel_rfl) ?_)
      repeat (refine Plan.assign rfl rfl rfl rfl ?_)
      have e : cmpV n x y = 0 := by unfold cmpV; rw [if_neg (by rw [h1]; simp), if_neg (by rw [h2]; simp)]
      rw [e]
      exact J.ret (Nrm.ret1 rfl (fun _ h => h) rfl fun B _ => Sub.refl _)
theorem cmpK (β g cap : Nat) (n : List EvV) : CmpK 101 [ptr β] (nC β g cap n) n.length (aheadR n) := by
  refine ⟨⟨_, Tryz.func101, rfl, rfl⟩, fun x y hx hy => ⟨cmpV n x y, cmp_fn β g cap n x y hx hy, fun hyx => ?_⟩⟩
  unfold cmpV aheadR
  by_cases h1 : later (n.getD x ev0) (n.getD y ev0) = true
  · rw [if_pos h1]
    exact ⟨fun _ => .inl (later_iff.1 h1), fun _ => by decide⟩
  · rw [if_neg h1]
    constructor
    · intro h; split at h <;> omega
    · rintro (h2 | ⟨_, h2⟩)
      · exact absurd (later_iff.2 h2) h1
      · omega
end Go.Proofs.YtmljgobenlpnfaaGreat
end

section
namespace Go.Proofs.YtmljgobenlpnfaaGreat
open Go.Free Go.RowKit Go.Proofs
set_option maxHeartbeats 8000000
def endsP (b a : EvV) : Prop := b.key = a.key ∧ hasP b.d a.r a.n ∧ (b.kind = 11 ∨ (b.kind = 10 ∧ b.rr = a.r ∧ b.rn = a.n))
instance (b a : EvV) : Decidable (endsP b a) := by unfold endsP; infer_instance
theorem dt_eq {a b c d : Int} : ((a, b) : Int × Int) = (c, d) ↔ a = c ∧ b = d := by simp
theorem ends_fn (b a : EvV) (hb : b.okV) (ha : a.okV) (h9 : a.kind = 9) : Spc Tryz.prog 28 [.ex (aggE b), .ex (aggE a)] fun _ => .ex (.bool (decide (endsP b a))) := by
  refine Spc.intro Tryz.func28 rfl (Nat.le_of_ble_eq_true rfl) fun w0 => ?_
  have hI := hIb w0
  have hA := Own.below w0
  have h1 := hb.2.2.2.2.2.2.2.2.2
  have h2 : okD (a.r, a.n) := ⟨ha.1, ha.2.1⟩
  have h3 : okD (b.rr, b.rn) := h1
  have h4 : addP a.kind := .inr (.inr (.inr (.inr (.inr h9))))
  refine J.heap0 1000 (newB w0) ?_
  repeat' (first | refine Plan.move rfl rfl rfl rfl ?_ | refine Plan.assign rfl rfl rfl rfl ?_ | refine Plan.skip rfl rfl ?_ | refine Plan.pick rfl rfl rfl rfl rfl ?_ | (refine Plan.ints rfl rfl rfl rfl rfl rfl ?_; (skip)) | refine Plan.un rfl rfl rfl rfl rfl ?_ | refine Plan.fieldC rfl rfl rfl rfl (by first | exact Tryz.underlying40 | exact Tryz.underlying38) rfl (by kernel_rfl) (by first | exact (rfl : _ = 0) | exact (rfl : _ = 19) | exact (rfl : _ = 20) | exact (rfl : _ = 24)) ?_ | refine Plan.loadC (key := 1000) (q := 0) rfl rfl rfl rfl rfl rfl (obj_reads1 rfl) (by first | exact Tryz.underlying3 | exact Tryz.underlying9) (by rfl) (by decide) ?_ | refine Plan.loadC (key := 1000) (q := 1) rfl rfl rfl rfl rfl rfl (obj_reads1 rfl) (by first | exact Tryz.underlying3 | exact Tryz.underlying9) (by rfl) (by decide) ?_ | refine J.seq (J.region mixed hI (by kernel_rfl) ?_) | refine J.region mixed hI (by kernel_rfl) ?_ | refine J.seq (J.seq (J.region mixed hI (by kernel_rfl) ?_)) | refine J.condF rfl ?_ | refine J.condT rfl ?_ | refine J.skip ?_ | refine Plan.call (B := w0.heap.size) rfl rfl rfl (covers_fn b a) Tryz.func58 rfl rfl (hBb w0) (by repeat (first | exact Opnds.nil | refine Opnds.cons rfl (by exact Sub.refl _) ?_)) ?_ | refine Plan.call (B := w0.heap.size) rfl rfl rfl (adds_fn a.kind) Tryz.func31 rfl rfl (hBb w0) (by repeat (first | exact Opnds.nil | refine Opnds.cons rfl (by exact Sub.refl _) ?_)) ?_ | refine Plan.loadAggC (key := 1000) (q := 0) (vs := b.enc) rfl rfl rfl rfl rfl rfl (obj_reads rfl) Tryz.underlying40 rfl (by rw [encE]; kernel_rfl) (by decide) ?_ | refine Plan.loadAggC (key := 1000) (q := 1) (vs := a.enc) rfl rfl rfl rfl rfl rfl (obj_reads rfl) Tryz.underlying40 rfl (by rw [encE]; kernel_rfl) (by decide) ?_ | refine Plan.loadAggC (key := 1000) (q := 0) (vs := [vi b.rr, vi b.rn]) rfl rfl rfl rfl rfl rfl (obj_reads rfl) Tryz.underlying34 rfl (by kernel_rfl) (by decide) ?_ | refine Plan.loadAggC (key := 1000) (q := 1) (vs := [vi a.r, vi a.n]) rfl rfl rfl rfl rfl rfl (obj_reads rfl) Tryz.underlying34 rfl (by kernel_rfl) (by decide) ?_ | refine Plan.eqlDt (b.rr, b.rn) (a.r, a.n) rfl rfl rfl rfl rfl h3 h2 ?_ | refine J.block ?_ | refine Plan.boolv (y := false) (decide_eq_false (by omega)) ?_ | refine Plan.boolv (y := true) (decide_eq_true (by omega)) ?_ | refine Plan.strs rfl rfl rfl rfl rfl rfl ?_ | refine Plan.boxC (key := 1000) rfl rfl rfl (by intro _ e; cases e; decide) rfl rfl hA fun _ => ?_ | refine J.condD rfl (fun _ => ?_) (fun _ => ?_) | refine J.condND rfl (fun _ => ?_) (fun _ => ?_) | refine Plan.splitD (fun _ => ?_) (fun _ => ?_) | refine Plan.splitN (fun _ => ?_) (fun _ => ?_))
  all_goals exact J.ret (Nrm.ret1 rfl (fun _ h => h) rfl fun B _ => Sub.of_eq (congrArg (fun b => Fa.ex (.bool b)) (by
    first
    | refine (decide_eq_true ?_).symm
    | refine (decide_eq_false ?_).symm
    | refine decide_eq_decide.2 ?_
    | refine beq_decide ?_
    | refine bne_decide ?_
    all_goals ((try simp only [endsP, dt_eq] at *); first | omega | grind))))
end Go.Proofs.YtmljgobenlpnfaaGreat
end

section
namespace Go.Free
open Go.RowKit
theorem SpcR.seen {P : Program} {f : FuncId} {As : List Fa} {c c0 : Chunk} {R : Nat → Fa} {sz : Nat} {xs : List Value} {v : Value} (h : SpcR P f (row sz xs :: As) c R) (hr : ∀ w F, c0.holds w F → rowH sz xs w v) (he : Ent c0 c) : SpcR P f (.ex v :: As) c0 R := fun w args F hd hc => by
  obtain ⟨G, h1, _⟩ := he w F hc
  refine h w args G ?_ h1
  simp only [Fa.dens] at hd ⊢
  obtain ⟨u, r, rfl, hu, hr'⟩ := hd
  simp only [Fa.den] at hu
  subst hu
  exact ⟨u, r, rfl, hr w F hc, hr'⟩
end Go.Free
namespace Go.Proofs.YtmljgobenlpnfaaGreat
open Go.Free Go.RowKit Go.Proofs Go.Free.Sorts
set_option maxHeartbeats 8000000
def idxP (p : EvV → Bool) (n : List EvV) : Int := match n.findIdx? p with | some j => (j : Int) | none => -1
theorem ixp_found {p : EvV → Bool} {n : List EvV} {j : Nat} (hj : j < n.length) (hp : p n[j] = true) (h : ∀ i (hi : i < n.length), i < j → p n[i] = false) : idxP p n = j := by
  have : n.findIdx? p = some j := List.findIdx?_eq_some_iff_getElem.2 ⟨hj, hp, fun i hi => by rw [h i (by omega) hi]; simp⟩
  unfold idxP; rw [this]
theorem ixp_none {p : EvV → Bool} {n : List EvV} (h : ∀ i (hi : i < n.length), p n[i] = false) : idxP p n = -1 := by
  have : n.findIdx? p = none := List.findIdx?_eq_none_iff.2 fun x hx => by
    obtain ⟨i, hi, rfl⟩ := List.getElem_of_mem hx
    exact h i hi
  unfold idxP; rw [this]
theorem ixp_some {p : EvV → Bool} {n : List EvV} (h : ¬ idxP p n = -1) : ∃ k, ∃ hk : k < n.length, idxP p n = k ∧ p n[k] = true ∧ ∀ j (hj : j < n.length), j < k → p n[j] = false := by
  unfold idxP at h ⊢
  cases hf : n.findIdx? p with
  | none => rw [hf] at h; exact absurd rfl h
  | some k =>
    rw [List.findIdx?_eq_some_iff_getElem] at hf
    obtain ⟨h1, h2, h3⟩ := hf
    exact ⟨k, h1, rfl, h2, fun j hj hjk => by simpa using h3 j hjk⟩
theorem ixp_no {p : EvV → Bool} {n : List EvV} (h : idxP p n = -1) : ∀ x ∈ n, p x = false := by
  unfold idxP at h
  cases hf : n.findIdx? p with
  | none => exact List.findIdx?_eq_none_iff.1 hf
  | some k => rw [hf] at h; simp only at h; omega
theorem ixp_any (p : EvV → Bool) (n : List EvV) : decide (idxP p n ≥ 0) = n.any p := by
  by_cases h : idxP p n = -1
  · have h2 := ixp_no h
    rw [h]
    have : n.any p = false := List.any_eq_false.2 fun x hx => by rw [h2 x hx]; decide
    rw [this]; rfl
  · obtain ⟨k, hk, h1, h2, _⟩ := ixp_some h
    have : n.any p = true := List.any_eq_true.2 ⟨n[k], List.getElem_mem hk, h2⟩
    rw [this, h1]; exact decide_eq_true (by omega)
def ipE (w0 : World) (f : FuncId) (caps : List Value) (n : List EvV) (c : Chunk) (i : Nat) : Env :=
  [(0, old w0 (row 26 (evsC n))), (1, .ex (fnV f caps)), (7, .ex (vi n.length)), (8, .ex (vi i)), (1000, heap (fun _ => True) [c])]
theorem indexG_fn (n : List EvV) (hn : n.length ≤ 1000000) (f : FuncId) (fn : Func) (caps : List Value) (p : EvV → Bool) (c : Chunk) (hfn : Tryz.prog.funcs[f]? = some fn) (hb : fn.body.isNone = false) (hnm : (fn.name == "runtime.NumGoroutine") = false)
    (hf : ∀ x ∈ n, SpcR Tryz.prog f (.ex (aggE x) :: caps.map .ex) c fun _ => .ex (.bool (p x))) :
    SpcR Tryz.prog 72 [row 26 (evsC n), .ex (fnV f caps)] c fun _ => .ex (vi (idxP p n)) := by
  refine SpcR.intro Tryz.func72 rfl (Nat.le_of_ble_eq_true rfl) fun w0 => ?_
  have hI := hIb w0
  refine J.seq (J.region mixed hI (by kernel_rfl) ?_)
  repeat (refine Plan.assign rfl rfl rfl rfl ?_)
  refine J.seq (J.seq (J.region mixed hI (by kernel_rfl) ?_))
  repeat (refine Plan.move rfl rfl rfl rfl ?_)
  refine Plan.lenRow (m := n.length) rfl rfl rfl rfl (Sub.old fun _ h => h) Tryz.underlying22 (by rw [evs_len]) (by decide) ?_
  repeat (refine Plan.move rfl rfl rfl rfl ?_)
  refine J.block (J.loop (ipE w0 f caps n c) (fun i => i ≤ n.length ∧ ∀ j (hj : j < n.length), j < i → p n[j] = false) (fun i => n.length - i) 0 ⟨Nat.zero_le _, fun j _ h => by omega⟩ ?_ ?_)
  · repeat (first | exact Weak.nil | refine Weak.cons rfl (Sub.refl _) ?_)
  rintro i ⟨hi, hno⟩
  refine J.seq (J.region mixed hI (by kernel_rfl) ?_)
  repeat ((refine Plan.ints rfl rfl rfl rfl rfl rfl ?_; (skip)))
  refine J.seq (J.condD rfl (fun hc => ?_) (fun hc => ?_))
  · have hlt : i < n.length := by omega
    refine J.skip ?_
    refine J.seq (J.block ?_)
    refine J.seq (J.region mixed hI (by kernel_rfl) ?_)
    repeat (first | refine Plan.move rfl rfl rfl rfl ?_ | refine Plan.assign rfl rfl rfl rfl ?_)
    refine J.seq (J.region mixed hI (by kernel_rfl) ?_)
    repeat (refine Plan.move rfl rfl rfl rfl ?_)
    refine Plan.indexAddr EvV.enc 26 n ev0 rfl rfl rfl rfl (Sub.old fun _ h => h) rfl eltE encE (by omega) (by omega) ?_
    rw [Int.toNat_natCast, getD_at hlt]
    refine Plan.loadAggP rfl rfl rfl rfl (Sub.refl _) Tryz.underlying40 rfl (by rw [encE]; kernel_rfl) ?_
    refine Plan.callFR (key := 1000) (B := 0) (fs := [.ex (aggE n[i])]) (caps := caps) rfl rfl rfl rfl (hf n[i] (List.getElem_mem hlt)) hfn hb hnm (fun _ _ => Nat.zero_le _) (Opnds.cons rfl (Sub.refl _) Opnds.nil) rfl Ent.one (by decide) ?_
    repeat (fail)
    cases hh : p n[i] with
    | true =>
      refine J.condT rfl ?_
      refine J.seq (J.region mixed hI (by kernel_rfl) ?_)
      repeat (first | refine Plan.move rfl rfl rfl rfl ?_ | refine Plan.assign rfl rfl rfl rfl ?_)
      rw [ixp_found hlt hh hno]
      exact J.ret (Nrm.ret1 rfl (fun _ h => h) rfl fun B _ => Sub.refl _)
    | false =>
      refine J.condF rfl ?_
      refine J.skip ?_
      refine J.region mixed hI (by kernel_rfl) ?_
      repeat (first | refine Plan.move rfl rfl rfl rfl ?_ | (refine Plan.ints rfl rfl rfl rfl rfl rfl ?_; (refine Plan.int (i64r (by omega)) ?_)))
      refine Plan.int (y := ((i + 1 : Nat) : Int)) (by omega) ?_
      repeat (fail)
      refine Nrm.next (i + 1) ⟨hlt, fun j hj hji => ?_⟩ (by omega) (by repeat (first | exact Weak.nil | refine Weak.cons rfl (Sub.refl _) ?_))
      by_cases hj2 : j < i
      · exact hno j hj hj2
      · have : j = i := by omega
        subst this; exact hh
  · have hie : i = n.length := by omega
    subst hie
    refine J.exit ?_
    refine J.seq (J.region mixed hI (by kernel_rfl) ?_)
    repeat (refine Plan.assign rfl rfl rfl rfl ?_)
    rw [ixp_none fun j hj => hno j hj hj]
    exact J.ret (Nrm.ret1 rfl (fun _ h => h) rfl fun B _ => Sub.refl _)
theorem containsG_fn (n : List EvV) (hn : n.length ≤ 1000000) (f : FuncId) (fn : Func) (caps : List Value) (p : EvV → Bool) (c : Chunk) (hfn : Tryz.prog.funcs[f]? = some fn) (hb : fn.body.isNone = false) (hnm : (fn.name == "runtime.NumGoroutine") = false)
    (hf : ∀ x ∈ n, SpcR Tryz.prog f (.ex (aggE x) :: caps.map .ex) c fun _ => .ex (.bool (p x))) :
    SpcR Tryz.prog 49 [row 26 (evsC n), .ex (fnV f caps)] c fun _ => .ex (.bool (n.any p)) := by
  refine SpcR.intro Tryz.func49 rfl (Nat.le_of_ble_eq_true rfl) fun w0 => ?_
  have hI := hIb w0
  refine J.seq (J.region mixed hI (by kernel_rfl) ?_)
  repeat (refine Plan.assign rfl rfl rfl rfl ?_)
  refine J.seq (J.region mixed hI (by kernel_rfl) ?_)
  repeat (refine Plan.move rfl rfl rfl rfl ?_)
  refine Plan.callRG (key := 1000) (B := 0) rfl rfl rfl (indexG_fn n hn f fn caps p c hfn hb hnm hf) Tryz.func72 rfl rfl (fun _ _ => Nat.zero_le _) (by repeat (first | exact Opnds.nil | refine Opnds.cons rfl (by first | exact Sub.refl _ | exact Sub.old (fun _ h => h)) ?_)) rfl Ent.one (by decide) ?_
  repeat (first | refine Plan.assign rfl rfl rfl rfl ?_ | (refine Plan.ints rfl rfl rfl rfl rfl rfl ?_; (skip)))
  refine Plan.boolv (y := n.any p) (ixp_any p n) ?_
  repeat (fail)
  exact J.ret (Nrm.ret1 rfl (fun _ h => h) rfl fun B _ => Sub.refl _)
end Go.Proofs.YtmljgobenlpnfaaGreat
end
