/-
  Addresses of elements, loads, cuts of slices and strings, rows laid open and stored into.
-/
import Derived.Test.YtkhcjedlopiicaaFreeEff
set_option linter.unusedSimpArgs false
set_option linter.unusedVariables false
set_option maxRecDepth 20000
namespace Go.Free
open Go.RowKit

/-! ### Addresses of elements, loads -/
def ptrH (cs : List Value) (w : World) (v : Value) : Prop := ∃ a, v = .pointer (some a) ∧ ∀ j u, cs[j]? = some u → w.cell? (a.add j) = some u
theorem ptrH_mono {cs : List Value} {w w' : World} {v : Value} (hb : Below w.heap.size w w') (h : ptrH cs w v) : ptrH cs w' v := by
  obtain ⟨a, rfl, hc⟩ := h
  exact ⟨a, rfl, fun j u hu => (hb.cell (World.block_lt_of_cell? w _ (hc j u hu))).trans (hc j u hu)⟩
/-- The address of cells that read cs. -/
def ptrF (cs : List Value) : Fa := .is ⟨ptrH cs, fun _ _ _ hb h => ptrH_mono hb h⟩

theorem add_add (a : Addr) (m j : Nat) : (a.add m).add j = a.add (m + j) := by
  unfold Addr.add
  by_cases h1 : m = 0 <;> by_cases h2 : j = 0 <;> simp [h1, h2, Nat.add_assoc]

def aggB : TypeDesc → Bool
  | .struct _ => true
  | .array _ _ => true
  | _ => false

theorem flatMap_seg {α : Type} (enc : α → List Value) (sz : Nat) (hsz : ∀ x, (enc x).length = sz) (d : α) : ∀ (l : List α) (j : Nat), j < l.length → ((l.flatMap enc).drop (j * sz)).take sz = enc (l.getD j d)
  | [], j, h => by simp at h
  | x :: l, 0, _ => by simp [List.take_left' (hsz x)]
  | x :: l, j + 1, h => by
    have h' : j < l.length := by simpa using h
    have ih := flatMap_seg enc sz hsz d l j h'
    simp only [List.flatMap_cons, List.getD_cons_succ]
    rw [show (j + 1) * sz = (enc x).length + j * sz by rw [hsz, Nat.add_mul]; omega, ← List.drop_drop, List.drop_left]
    exact ih
theorem flatMap_length {α : Type} (enc : α → List Value) (sz : Nat) (hsz : ∀ x, (enc x).length = sz) (l : List α) : (l.flatMap enc).length = l.length * sz := by
  induction l with
  | nil => simp
  | cons x l ih => simp only [List.flatMap_cons, List.length_append, List.length_cons, ih, hsz, Nat.add_mul]; omega
theorem bs_flat (l : List UInt8) : bs l = l.flatMap fun b => [.int .u8 b.toNat] := by
  induction l with
  | nil => rfl
  | cons b l ih => simp [bs] at ih ⊢; exact ih

section
variable {P : Program} {ops : Array Oper} {Q : Exit → Act → World → Prop} {n : Nat} {I : World → Prop} {k i : Nat} {E : Env} {o : Oper} {d : Bool}

theorem Plan.indexAddr {α : Type} {t e : TypeId} {z : Value} {bytes : Nat} {x y : Operand} {g : Fa} {kd : IntKind} {j : Int} (enc : α → List Value) (sz : Nat) (l : List α) (dv : α) (ho : ops[i]? = some o) (hop : o.op = .indexAddr t x y)
    (hg : wantB ops E o = some true) (hx : opF E x = some g) (hs : Sub I g (row sz (l.flatMap enc))) (hy : opF E y = some (.ex (.int kd j))) (he : Elt P t e z sz bytes) (henc : ∀ x, (enc x).length = sz) (h0 : 0 ≤ j) (h1 : j < l.length)
    (h : Plan P ops Q n I d k (i + 1) (setE o.dst (ptrF (enc (l.getD j.toNat dv))) E)) : Plan P ops Q n I d (k + 1) i E :=
  Plan.step ho (Step.run ho hg fun a w hI hs' => by
    have e1 := hs w _ hI (hs' x (by simp [hop, Op.operands]) _ hx)
    have e2 := hs' y (by simp [hop, Op.operands]) _ hy
    simp only [Fa.den, row, rowP] at e1 e2
    obtain ⟨A, m, c, hv, hmc, hc, hl, hnil, hcell⟩ := e1
    obtain ⟨inf, hi, hz, hs1, hby⟩ := he.hi
    have hpos := he.hs
    rw [flatMap_length enc sz henc] at hl
    have hm : m = l.length := (Nat.eq_of_mul_eq_mul_right hpos hl).symm
    have hjl : j.toNat < l.length := by omega
    have hcells : ∀ q u, (enc (l.getD j.toNat dv))[q]? = some u → ∃ ad, A = some ad ∧ w.cell? (ad.add (j.toNat * sz + q)) = some u := by
      intro q u hu
      refine hcell (j.toNat * sz + q) u ?_
      rw [← flatMap_seg enc sz henc dv l j.toNat hjl, List.getElem?_take] at hu
      split at hu
      · rw [List.getElem?_drop] at hu; exact hu
      · cases hu
    have hsome : ∃ ad, A = some ad := by
      have hlt : 0 < (enc (l.getD j.toNat dv)).length := by rw [henc]; exact hpos
      obtain ⟨ad, h2, _⟩ := hcells 0 _ (List.getElem?_eq_getElem hlt)
      exact ⟨ad, h2⟩
    obtain ⟨ad, rfl⟩ := hsome
    refine ⟨.pointer (some (ad.add (j.toNat * sz))), w, ?_, Below.refl _ _, ?_⟩
    · have hj2 : j < (m : Int) := by omega
      simp [execOp, hop, hv, e2, Instr.indexAt, asIntOf, run_underlying he.ht, h0, hj2, sizeOf, typeInfo, hi, hs1]
    · refine ⟨_, rfl, fun q u hu => ?_⟩
      obtain ⟨ad', h2, h3⟩ := hcells q u hu
      cases h2
      rw [add_add]; exact h3) h

theorem Plan.load {t : TypeId} {u : TypeDesc} {x : Operand} {g : Fa} {v : Value} (ho : ops[i]? = some o) (hop : o.op = .load t x) (hg : wantB ops E o = some true)
    (hx : opF E x = some g) (hs : Sub I g (ptrF [v])) (hu : P.underlying t = some u) (hna : aggB u = false)
    (h : Plan P ops Q n I d k (i + 1) (setE o.dst (.ex v) E)) : Plan P ops Q n I d (k + 1) i E :=
  Plan.step ho (Step.run ho hg fun a w hI hs' => by
    have e1 := hs w _ hI (hs' x (by simp [hop, Op.operands]) _ hx)
    obtain ⟨ad, hv, hc⟩ := e1
    have hc0 := hc 0 v rfl
    simp only [Addr.add, if_true] at hc0
    refine ⟨v, w, ?_, Below.refl _ _, by simp [Fa.den]⟩
    have hagg : (isAgg t).run P w = .ok false w := by
      cases u <;> simp [aggB] at hna <;> simp [isAgg, run_underlying hu]
    simp [execOp, hop, hv, Instr.loadAt, Instr.sureAddr, loadVar, hagg, run_load, hc0]) h

theorem run_loadCellsFrom (a : Addr) (w : World) : ∀ (m i : Nat) (acc : Array Value) (cs : List Value), cs.length = m → (∀ j u, cs[j]? = some u → w.cell? (a.add (i + j)) = some u) →
    (loadCellsFrom a i m acc).run P w = .ok (acc ++ cs.toArray) w
  | 0, i, acc, cs, hl, _ => by
    have : cs = [] := List.eq_nil_of_length_eq_zero hl
    subst this; simp [loadCellsFrom]
  | m + 1, i, acc, [], hl, _ => by simp at hl
  | m + 1, i, acc, c :: cs, hl, hc => by
    have h0 := hc 0 c rfl
    simp only [Nat.add_zero] at h0
    have ih := run_loadCellsFrom a w m (i + 1) (acc.push c) cs (by simpa using hl) (fun j u hu => by
      have := hc (j + 1) u (by simpa using hu)
      rw [← this]; congr 2; omega)
    simp [loadCellsFrom, run_load, h0, ih]

theorem Plan.loadAgg {t : TypeId} {u : TypeDesc} {x : Operand} {g : Fa} {cs : List Value} {inf : TypeInfo} (ho : ops[i]? = some o) (hop : o.op = .load t x) (hg : wantB ops E o = some true)
    (hx : opF E x = some g) (hs : Sub I g (ptrF cs)) (hu : P.underlying t = some u) (hna : aggB u = true) (hi : P.info? t = some inf) (hsz : inf.size = cs.length)
    (h : Plan P ops Q n I d k (i + 1) (setE o.dst (.ex (.agg cs.toArray)) E)) : Plan P ops Q n I d (k + 1) i E :=
  Plan.step ho (Step.run ho hg fun a w hI hs' => by
    have e1 := hs w _ hI (hs' x (by simp [hop, Op.operands]) _ hx)
    obtain ⟨ad, hv, hc⟩ := e1
    refine ⟨.agg cs.toArray, w, ?_, Below.refl _ _, by simp [Fa.den]⟩
    have hagg : (isAgg t).run P w = .ok true w := by
      cases u <;> simp [aggB] at hna <;> simp [isAgg, run_underlying hu]
    have hl := run_loadCellsFrom (P := P) ad w cs.length 0 #[] cs rfl (fun j u hu => by simpa using hc j u hu)
    simp [execOp, hop, hv, Instr.loadAt, Instr.sureAddr, loadVar, hagg, sizeOf, typeInfo, hi, hsz, loadCells, hl]) h

/-- x[lo:hi] of a slice that is read, up to its length. -/
theorem rowH_take {sz m : Nat} {cs : List Value} {w : World} {A : Option Addr} {len c : Nat} (h : rowH sz cs w (.slice A len c)) (hm : m ≤ len) : rowH sz (cs.take (m * sz)) w (.slice A m c) := by
  obtain ⟨A', n', c', hv, h1, h2, h3, h4, h5⟩ := h
  cases hv
  refine ⟨A, m, c, rfl, by omega, h2, ?_, h4, fun j u hu => ?_⟩
  · rw [List.length_take, h3]; exact Nat.min_eq_left (Nat.mul_le_mul_right _ hm)
  · rw [List.getElem?_take] at hu
    split at hu
    · exact h5 j u hu
    · cases hu
theorem rowH_drop {sz m : Nat} {cs : List Value} {w : World} {A : Option Addr} {len c : Nat} (h : rowH sz cs w (.slice A len c)) (hm : m ≤ len) :
    rowH sz (cs.drop (m * sz)) w (.slice (if c = m then A else A.map (·.add (m * sz))) (len - m) (c - m)) := by
  obtain ⟨A', n', c', hv, h1, h2, h3, h4, h5⟩ := h
  cases hv
  refine ⟨_, _, _, rfl, by omega, by omega, ?_, ?_, fun j u hu => ?_⟩
  · rw [List.length_drop, h3, Nat.sub_mul]
  · intro hA
    split at hA
    · omega
    · cases A with
      | none => have := h4 rfl; omega
      | some ad => simp at hA
  · rw [List.getElem?_drop] at hu
    obtain ⟨ad, rfl, hc⟩ := h5 _ u hu
    have hlt : m * sz + j < len * sz := by rw [← h3]; exact (List.getElem?_eq_some_iff.1 hu).1
    have hcm : ¬ c = m := by
      intro e
      have : len * sz ≤ m * sz := Nat.mul_le_mul_right _ (by omega)
      omega
    rw [if_neg hcm]
    exact ⟨_, rfl, by rw [add_add]; exact hc⟩

theorem run_sliceBound_ok {w : World} {kd : IntKind} {i : Int} {y : Nat} {code : BoundsCode} (h0 : 0 ≤ i) (h1 : i ≤ y) : (Instr.sliceBound (.int kd i) y code).run P w = .ok i.toNat w := by
  simp [Instr.sliceBound, asIntOf, h0, h1]

/-- x[:hi], x[lo:], x[lo:hi], x[:] of a slice that is read: lo, hi as numbers (0 and the length where they aren't given). -/
theorem Plan.sliceRow {t e : TypeId} {z : Value} {sz bytes : Nat} {x : Operand} {lo hi : Option Operand} {g : Fa} {cs : List Value} {m a0 b0 : Nat} (ho : ops[i]? = some o) (hop : o.op = .slice t x lo hi none)
    (hg : wantB ops E o = some true) (hx : opF E x = some g) (hs : Sub I g (row sz cs)) (he : Elt P t e z sz bytes) (hm : cs.length = m * sz)
    (hlo : (lo = none ∧ a0 = 0) ∨ ∃ y kd, lo = some y ∧ opF E y = some (.ex (.int kd a0))) (hhi : (hi = none ∧ b0 = m) ∨ ∃ y kd, hi = some y ∧ opF E y = some (.ex (.int kd b0)))
    (hab : a0 ≤ b0) (hbm : b0 ≤ m)
    (h : Plan P ops Q n I d k (i + 1) (setE o.dst (row sz ((cs.take (b0 * sz)).drop (a0 * sz))) E)) : Plan P ops Q n I d (k + 1) i E :=
  Plan.step ho (Step.run ho hg fun a w hI hs' => by
    have e1 := hs w _ hI (hs' x (by simp [hop, Op.operands]) _ hx)
    simp only [Fa.den, row, rowP] at e1
    obtain ⟨inf, hinf, hz, hs1, hby⟩ := he.hi
    have hpos := he.hs
    obtain ⟨A, m', c, hv, h1, h2, h3, h4, h5⟩ := id e1
    have hm' : m' = m := Nat.eq_of_mul_eq_mul_right hpos (h3.symm.trans hm)
    subst hm'
    rw [hv] at e1
    have hrow := rowH_drop (rowH_take e1 hbm) hab
    have hrun : ∀ (vl vh : Option Value), (vl = none ∧ a0 = 0 ∨ ∃ kd, vl = some (.int kd (a0 : Int))) → (vh = none ∧ b0 = m' ∨ ∃ kd, vh = some (.int kd (b0 : Int))) →
        (Instr.sliceAt t (.slice A m' c) vl vh none).run P w = .ok (.slice (if c = a0 then A else A.map (·.add (a0 * sz))) (b0 - a0) (c - a0)) w := by
      intro vl vh hl hh
      have hB : (Instr.sliceBounds true m' c vl vh none).run P w = .ok (a0, b0, c) w := by
        unfold Instr.sliceBounds
        rcases hl with ⟨rfl, rfl⟩ | ⟨kd, rfl⟩ <;> rcases hh with ⟨rfl, rfl⟩ | ⟨kd', rfl⟩
        · simp
        · simp [run_sliceBound_ok (P := P) (w := w) (Int.natCast_nonneg b0) (show (b0 : Int) ≤ c by omega)]
        · simp [run_sliceBound_ok (P := P) (w := w) (Int.natCast_nonneg a0) (show (a0 : Int) ≤ b0 by omega)]
        · simp [run_sliceBound_ok (P := P) (w := w) (Int.natCast_nonneg b0) (show (b0 : Int) ≤ c by omega), run_sliceBound_ok (P := P) (w := w) (Int.natCast_nonneg a0) (show (a0 : Int) ≤ b0 by omega)]
      simp [Instr.sliceAt, run_underlying he.ht, Instr.slice, hB, sizeOf, typeInfo, hinf, hs1]
    refine ⟨_, w, ?_, Below.refl _ _, hrow⟩
    have hr := hrun (lo.map a.eval) (hi.map a.eval) (by
      rcases hlo with ⟨rfl, h⟩ | ⟨y, kd, rfl, hy⟩
      · exact .inl ⟨rfl, h⟩
      · have := hs' y (by simp [hop, Op.operands]) _ hy
        simp only [Fa.den] at this
        exact .inr ⟨kd, by simp [this]⟩) (by
      rcases hhi with ⟨rfl, h⟩ | ⟨y, kd, rfl, hy⟩
      · exact .inl ⟨rfl, h⟩
      · have := hs' y (by simp [hop, Op.operands]) _ hy
        simp only [Fa.den] at this
        exact .inr ⟨kd, by simp [this]⟩)
    simp only [execOp, hop, Option.map_none, hv, Sem.run_bind, hr, Result.andThen_ok, Sem.run_pure]) h

/-- A slice against nil: where it is nil, it has no elements. -/
def nilB (p : Prop) : Fa := .is ⟨fun _ v => (v = .bool true ∧ p) ∨ v = .bool false, fun _ _ _ _ h => h⟩
theorem Plan.eqlNil {t e yt : TypeId} {x : Operand} {g : Fa} {sz : Nat} {cs : List Value} (ho : ops[i]? = some o) (hop : o.op = .binOp .eql t x (.const (.slice none 0 0)) yt) (hg : wantB ops E o = some true)
    (hx : opF E x = some g) (hs : Sub I g (row sz cs)) (hu : P.underlying t = some (.slice e))
    (h : Plan P ops Q n I d k (i + 1) (setE o.dst (nilB (cs = [])) E)) : Plan P ops Q n I d (k + 1) i E :=
  Plan.step ho (Step.run ho hg fun a w hI hs' => by
    have h1 := hs w _ hI (hs' x (by simp [hop, Op.operands]) _ hx)
    obtain ⟨A, m, c, hv, hmc, hc, hl, hnil, hcell⟩ := h1
    have hr := Lib.run_eql_slice_nil (P := P) w t e A m c 0 0 hu
    have hgd : (eqGuard .eql t x (.const (.slice none 0 0)) (.slice A m c) (.slice none 0 0)).run P w = .ok () w := by simp [eqGuard]
    refine ⟨.bool A.isNone, w, ?_, Below.refl _ _, ?_⟩
    · have hev : a.eval (.const (.slice none 0 0)) = .slice none 0 0 := rfl
      simp only [execOp, hop, hv, hev, Sem.run_bind, hgd, Result.andThen_ok, hr, Sem.run_pure]
    · show (_ ∧ _) ∨ _
      cases A with
      | some ad => exact .inr rfl
      | none =>
        refine .inl ⟨rfl, ?_⟩
        have h0 := hnil rfl
        have hm0 : m = 0 := by omega
        rw [hm0, Nat.zero_mul] at hl
        exact List.eq_nil_of_length_eq_zero hl) h

theorem J.condNil {t : Nat} {p : Prop} {x y : Code} (hc : look E t = some (nilB p)) (ht : p → J P n I x Q E) (hf : J P n I y Q E) : J P n I (.cond (.tmp t) x y) Q E :=
  fun a w h1 h2 h3 => by
    have h4 : ((a.slot t = .bool true ∧ p) ∨ a.slot t = .bool false) := h3 t _ hc
    rcases h4 with ⟨h5, hp⟩ | h5
    · exact wp_cond_true (by simpa [Act.eval, Act.slot] using h5) (ht hp a w h1 h2 h3)
    · exact wp_cond_false (by simpa [Act.eval, Act.slot] using h5) (hf a w h1 h2 h3)

theorem Sub.nilOwn {B e sz : Nat} (hB : ∀ w, I w → B ≤ w.heap.size) : Sub I (.ex (.slice none 0 0)) (Free.own B e sz []) := fun w v hI h => by
  simp only [Fa.den] at h
  subst h
  exact ⟨hB w hI, 0, World.ownsRow_nil w B e sz⟩
theorem Sub.nilRow {sz : Nat} : Sub I (.ex (.slice none 0 0)) (row sz []) := fun w v _ h => by
  simp only [Fa.den] at h
  subst h
  exact ⟨none, 0, 0, rfl, Nat.le_refl _, by omega, by simp, fun _ => rfl, fun j u hu => by simp at hu⟩
theorem Sub.ownLower {B B' e sz : Nat} {cs : List Value} (hB : B' ≤ B) : Sub I (Free.own B e sz cs) (Free.own B' e sz cs) := fun w v _ h => by
  simp only [Free.own, Fa.den] at h ⊢; exact own_lower h hB
theorem Sub.rowEq {sz : Nat} {g : Fa} {cs cs' : List Value} (he : cs = cs') (h : Sub I g (row sz cs)) : Sub I g (row sz cs') := he ▸ h
theorem Sub.trans {f g h : Fa} (h1 : Sub I f g) (h2 : Sub I g h) : Sub I f h := fun w v hI hd => h2 w v hI (h1 w v hI hd)

/-- A string's piece. -/
theorem Plan.sliceStr {t : TypeId} {x : Operand} {lo hi : Option Operand} {p : List UInt8} {a0 b0 : Nat} (ho : ops[i]? = some o) (hop : o.op = .slice t x lo hi none)
    (hg : wantB ops E o = some true) (hx : opF E x = some (.ex (str p))) (hu : P.underlying t = some .string)
    (hlo : (lo = none ∧ a0 = 0) ∨ ∃ y kd, lo = some y ∧ opF E y = some (.ex (.int kd a0))) (hhi : (hi = none ∧ b0 = p.length) ∨ ∃ y kd, hi = some y ∧ opF E y = some (.ex (.int kd b0)))
    (hab : a0 ≤ b0) (hbm : b0 ≤ p.length)
    (h : Plan P ops Q n I d k (i + 1) (setE o.dst (.ex (str ((p.take b0).drop a0))) E)) : Plan P ops Q n I d (k + 1) i E :=
  Plan.step ho (Step.run ho hg fun a w hI hs' => by
    have e1 := hs' x (by simp [hop, Op.operands]) _ hx
    simp only [Fa.den, str] at e1
    have hsz : (ByteArray.mk p.toArray).size = p.length := by simp [ByteArray.size]
    have hrun : ∀ (vl vh : Option Value), (vl = none ∧ a0 = 0 ∨ ∃ kd, vl = some (.int kd (a0 : Int))) → (vh = none ∧ b0 = p.length ∨ ∃ kd, vh = some (.int kd (b0 : Int))) →
        (Instr.sliceAt t (.string ⟨p.toArray⟩) vl vh none).run P w = .ok (str ((p.take b0).drop a0)) w := by
      intro vl vh hl hh
      have hB : (Instr.sliceBounds false p.length p.length vl vh none).run P w = .ok (a0, b0, p.length) w := by
        unfold Instr.sliceBounds
        rcases hl with ⟨rfl, rfl⟩ | ⟨kd, rfl⟩ <;> rcases hh with ⟨rfl, rfl⟩ | ⟨kd', rfl⟩
        · simp
        · simp [run_sliceBound_ok (P := P) (w := w) (Int.natCast_nonneg b0) (show (b0 : Int) ≤ p.length by omega)]
        · simp [run_sliceBound_ok (P := P) (w := w) (Int.natCast_nonneg a0) (show (a0 : Int) ≤ p.length by omega)]
        · simp [run_sliceBound_ok (P := P) (w := w) (Int.natCast_nonneg b0) (show (b0 : Int) ≤ p.length by omega), run_sliceBound_ok (P := P) (w := w) (Int.natCast_nonneg a0) (show (a0 : Int) ≤ b0 by omega)]
      have hex : (ByteArray.mk p.toArray).extract a0 b0 = ⟨((p.take b0).drop a0).toArray⟩ := by
        rw [ByteArray.extract_mk, List.drop_take]
      simp only [Instr.sliceAt, Sem.run_bind, run_underlying hu, Result.andThen_ok, Instr.slice, hsz, Option.isSome_none, Bool.false_eq_true, if_false, Sem.run_pure, hB, hex, str]
    have hr := hrun (lo.map a.eval) (hi.map a.eval) (by
      rcases hlo with ⟨rfl, h⟩ | ⟨y, kd, rfl, hy⟩
      · exact .inl ⟨rfl, h⟩
      · have := hs' y (by simp [hop, Op.operands]) _ hy
        simp only [Fa.den] at this
        exact .inr ⟨kd, by simp [this]⟩) (by
      rcases hhi with ⟨rfl, h⟩ | ⟨y, kd, rfl, hy⟩
      · exact .inl ⟨rfl, h⟩
      · have := hs' y (by simp [hop, Op.operands]) _ hy
        simp only [Fa.den] at this
        exact .inr ⟨kd, by simp [this]⟩)
    refine ⟨_, w, ?_, Below.refl _ _, by simp only [Fa.den]; rfl⟩
    simp only [execOp, hop, Option.map_none, e1, Sem.run_bind, hr, Result.andThen_ok, Sem.run_pure]) h

/-- []byte("constant"): the literal's row, marked; it is read from here on. -/
theorem run_convert_same {w : World} {t e : TypeId} {v : Value} {B : Nat} {l : List UInt8} (hu : P.underlying t = some (.slice e)) (he : P.underlying e = some (.int .u8)) (hne : v ≠ .slice none 0 0) (h : ownH B e 1 (bs l) w v) :
    ∃ w', (convert t t v).run P w = .ok v w' ∧ w.grownBy w' v.ownBlock ∧ rowH 1 (bs l) w' v := by
  have hrow := own_row h
  obtain ⟨_, n, hl, h | ⟨g, cap, cur, rfl, hb, hh, h1, h2, h3, h4⟩⟩ := h
  · exact absurd h.1 hne
  · have hshape : w.shape? g = some (e, cur.size) := by simp [World.shape?, hh]
    refine ⟨w.freeze ⟨g, cur.size, none⟩ 1, ?_, ⟨rfl, rfl, rfl, by simp [World.freeze], fun k hk hne => ?_⟩, ?_⟩
    · simp [convert, run_underlying hu, run_underlying he, markStringish, hshape]
    · have : g ≠ k := fun e => hne (by simp [Value.ownBlock, e])
      simp [World.freeze, Array.getElem?_modify, this]
    · obtain ⟨A, m, c, hv, e1, e2, e3, e4, e5⟩ := hrow
      cases hv
      refine ⟨_, _, _, rfl, e1, e2, e3, e4, fun j u hu => ?_⟩
      obtain ⟨ad, hA, hc⟩ := e5 j u hu
      cases hA
      refine ⟨_, rfl, ?_⟩
      have hadd : (⟨g, 0, none⟩ : Addr).add j = ⟨g, j, none⟩ := by unfold Addr.add; split <;> simp_all
      rw [hadd] at hc ⊢
      have hlt : g < w.heap.size := (Array.getElem?_eq_some_iff.1 hh).1
      simp only [World.cell?, hh] at hc
      simp only [World.cell?, World.freeze, Nat.one_ne_zero, if_false, Array.getElem?_modify, if_true, hh, Option.map_some]
      simpa using hc

theorem Plan.convSame {t e : TypeId} {x : Operand} {B : Nat} {l : List UInt8} {f : Fa} (ho : ops[i]? = some o) (hop : o.op = .convert t t x) (hg : wantB ops E o = some true) (hd : ∀ d, o.dst = some d → d < n)
    (hx : opF E x = some f) (hfs : Sub I f (own B e 1 (bs l))) (hu : P.underlying t = some (.slice e)) (he : P.underlying e = some (.int .u8)) (hl : l ≠ [])
    (hG : ∀ w w' r, I w → w.grownBy w' r → (∀ b, r = some b → B ≤ b) → I w')
    (h : Plan P ops Q n I d k (i + 1) (setE o.dst (bytesF l) (sieve E))) (hq : d = false ∨ barB ops i = true := by first | exact .inl rfl | exact .inr (by kernel_rfl)) : Plan P ops Q n I d (k + 1) i E :=
  Plan.eff ho hg hd (fun a w hI _ hs' => by
    have e1 := hfs w _ hI (hs' x (by simp [hop, Op.operands]) _ hx)
    simp only [own, Fa.den] at e1
    have hne : a.eval x ≠ .slice none 0 0 := by
      intro he'
      rw [he'] at e1
      obtain ⟨_, m, hlen, h | ⟨g, cap, cur, hv, _⟩⟩ := e1
      · rw [h.2, bs_length] at hlen
        exact hl (List.eq_nil_of_length_eq_zero (by simpa using hlen))
      · simp at hv
    obtain ⟨w', hr, h2, h3⟩ := run_convert_same hu he hne e1
    refine ⟨a.eval x, w', .inl ?_, hG w w' _ hI h2 ?_, h3⟩
    · simp only [execOp, hop, Sem.run_bind, hr, Result.andThen_ok, Sem.run_pure]
    · intro b hb
      obtain ⟨_, m, hm⟩ := e1
      exact (hm.lt b hb).1) hq h

/-! ### A row of the call's own laid open: its value stands in a slot exactly; that it is owned stands under a key of its own beyond the slots -/
def res (B e sz : Nat) (cs : List Value) (v : Value) : Fa := .is ⟨fun w _ => ownH B e sz cs w v, fun _ _ _ hb h => ownH_mono hb h⟩

theorem J.openOwn {c : Code} {t key B e sz m : Nat} {cs : List Value} {f : Fa} (hf : look E t = some f) (hs : Sub I f (Free.own B e sz cs)) (hm : cs.length = m * sz) (hsz : 0 < sz) (hpos : 0 < m)
    (h : ∀ g cap, B ≤ g → J P n I c Q ((t, .ex (.slice (some ⟨g, 0, none⟩) m cap)) :: (key, res B e sz cs (.slice (some ⟨g, 0, none⟩) m cap)) :: E)) : J P n I c Q E := fun a w h1 h2 h3 => by
  have h4 : ownH B e sz cs w (a.slot t) := by have := hs w _ h1 (h3 t f hf); simpa only [Free.own, Fa.den] using this
  obtain ⟨hB, m', hown⟩ := id h4
  have hmm : m' = m := Nat.eq_of_mul_eq_mul_right hsz (hown.1.symm.trans hm)
  subst hmm
  rcases hown.2 with ⟨_, h0⟩ | ⟨g, cap, cur, hv, hb, _⟩
  · omega
  · refine h g cap hb a w h1 h2 ?_
    intro s f' hf'
    simp only [look] at hf'
    by_cases hst : t = s
    · subst hst
      simp only [if_true, Option.some.injEq] at hf'
      subst hf'
      simpa only [Fa.den] using hv
    · rw [if_neg hst] at hf'
      by_cases hks : key = s
      · subst hks
        simp only [if_true, Option.some.injEq] at hf'
        subst hf'
        show ownH B e sz cs w _
        rw [← hv]; exact h4
      · rw [if_neg hks] at hf'; exact h3 s f' hf'

theorem derive_sat {t : Nat} {f : Fa} {a : Act} {w : World} (h3 : Sat E a w) (hd : f.den w (a.slot t)) : Sat ((t, f) :: E) a w := by
  intro s g hg
  simp only [look] at hg
  by_cases hs : t = s
  · subst hs; simp only [if_true, Option.some.injEq] at hg; subst hg; exact hd
  · rw [if_neg hs] at hg; exact h3 s g hg
theorem close_den {t key B e sz : Nat} {cs : List Value} {v : Value} {a : Act} {w : World} (ht : look E t = some (.ex v)) (hk : look E key = some (res B e sz cs v)) (h3 : Sat E a w) : (Free.own B e sz cs).den w (a.slot t) := by
  have e1 := h3 t _ ht
  have e2 : ownH B e sz cs w v := h3 key _ hk
  simp only [Fa.den] at e1
  show ownH B e sz cs w (a.slot t)
  rw [e1]; exact e2
theorem J.closeOwn {c : Code} {t key B e sz : Nat} {cs : List Value} {v : Value} (ht : look E t = some (.ex v)) (hk : look E key = some (res B e sz cs v))
    (h : J P n I c Q ((t, Free.own B e sz cs) :: E)) : J P n I c Q E := fun a w h1 h2 h3 => h a w h1 h2 (derive_sat h3 (close_den ht hk h3))
theorem Nrm.closeOwn {K : Act → World → Prop} {t key B e sz : Nat} {cs : List Value} {v : Value} (ht : look E t = some (.ex v)) (hk : look E key = some (res B e sz cs v))
    (h : Nrm n I K ((t, Free.own B e sz cs) :: E)) : Nrm n I K E := fun a w h1 h2 h3 => h a w h1 h2 (derive_sat h3 (close_den ht hk h3))

theorem Plan.indexEx {t e : TypeId} {z : Value} {bytes sz m cap q : Nat} {x y : Operand} {ad : Addr} {kd : IntKind} {j : Int} (ho : ops[i]? = some o) (hop : o.op = .indexAddr t x y)
    (hg : wantB ops E o = some true) (hx : opF E x = some (.ex (.slice (some ad) m cap))) (hy : opF E y = some (.ex (.int kd j))) (he : Elt P t e z sz bytes) (h0 : 0 ≤ j) (h1 : j < m) (hq : j.toNat * sz = q)
    (h : Plan P ops Q n I d k (i + 1) (setE o.dst (.ex (.pointer (some (ad.add q)))) E)) : Plan P ops Q n I d (k + 1) i E :=
  Plan.step ho (Step.run ho hg fun a w hI hs' => by
    have e1 := hs' x (by simp [hop, Op.operands]) _ hx
    have e2 := hs' y (by simp [hop, Op.operands]) _ hy
    simp only [Fa.den] at e1 e2
    obtain ⟨inf, hi, hz, hs1, hby⟩ := he.hi
    refine ⟨.pointer (some (ad.add q)), w, ?_, Below.refl _ _, by simp [Fa.den]⟩
    simp [execOp, hop, e1, e2, Instr.indexAt, asIntOf, run_underlying he.ht, h0, h1, sizeOf, typeInfo, hi, hs1, hq]) h

theorem own_cell {B e sz g m cap q : Nat} {cs : List Value} {w : World} {u : Value} (h : ownH B e sz cs w (.slice (some ⟨g, 0, none⟩) m cap)) (hu : cs[q]? = some u) : w.cell? ((⟨g, 0, none⟩ : Addr).add q) = some u := by
  obtain ⟨A, m', c', hv', h1, h2, h3, h4, h5⟩ := own_row h
  cases hv'
  obtain ⟨ad, hA, hc⟩ := h5 q u hu
  cases hA; exact hc

/-- A load of one cell out of a row laid open. In a region that draws its order the key must not change. -/
theorem Plan.loadRes {t : TypeId} {u : TypeDesc} {x : Operand} {key B e sz g m cap q : Nat} {cs : List Value} {v : Value} (ho : ops[i]? = some o) (hop : o.op = .load t x) (hg : wantB ops E o = some true) (hd : d = false)
    (hx : opF E x = some (.ex (.pointer (some ((⟨g, 0, none⟩ : Addr).add q))))) (hk : look E key = some (res B e sz cs (.slice (some ⟨g, 0, none⟩) m cap))) (hv : cs[q]? = some v) (hu : P.underlying t = some u) (hna : aggB u = false) (hdn : ∀ d, o.dst = some d → d < n)
    (h : Plan P ops Q n I d k (i + 1) (setE o.dst (.ex v) E)) : Plan P ops Q n I d (k + 1) i E := by
  refine .inr ⟨.inl hd, ?_⟩
  intro a w hI hsh hs
  have e1 := opF_den (i := i) (f := .ex (.pointer (some ((⟨g, 0, none⟩ : Addr).add q)))) ho (x := x) (by simp [hop, Op.operands]) (fun t _ f hf => hs t f hf) hx
  have e2 : ownH B e sz cs w _ := hs key _ hk
  simp only [Fa.den] at e1
  have hc := own_cell e2 hv
  have hagg : (isAgg t).run P w = .ok false w := by
    cases u <;> simp [aggB] at hna <;> simp [isAgg, run_underlying hu]
  unfold wpOp
  simp only [ho, wantB_spec ho hsh (fun t _ f hf => hs t f hf) hg, if_true]
  refine .inl ?_
  unfold Oper.wp
  have hr : (execOp a.eval o).run P w = .ok (.value v) w := by
    simp [execOp, hop, e1, Instr.loadAt, Instr.sureAddr, loadVar, hagg, run_load, hc]
  rw [hr]
  refine ⟨_, h, hI, hsh.put _ _, ?_⟩
  intro s f hf
  cases hdst : o.dst with
  | none => rw [hdst] at hf; exact hs s f hf
  | some dd =>
    rw [hdst] at hf
    simp only [setE, look] at hf
    by_cases hds : dd = s
    · subst hds
      simp only [if_true, Option.some.injEq] at hf
      subst hf
      rw [slot_put_same hsh (hdn dd hdst)]
      simp [Fa.den]
    · rw [if_neg hds] at hf
      rw [slot_put_ne a hds]; exact hs s f hf

/-- x[i] = v of one cell into a row laid open. -/
theorem Plan.storeRes {t : TypeId} {p x : Operand} {key B e sz g m cap q : Nat} {cs : List Value} {v : Value} {inf : TypeInfo} (ho : ops[i]? = some o) (hop : o.op = .store t p x) (hdst : o.dst = none) (hg : wantB ops E o = some true)
    (hp : opF E p = some (.ex (.pointer (some ((⟨g, 0, none⟩ : Addr).add q))))) (hx : opF E x = some (.ex v)) (hone : v.oneCell' = true) (hc1 : v.cells = #[v]) (hu : P.info? t = some inf) (hti : inf.size = 1)
    (hk : look E key = some (res B e sz cs (.slice (some ⟨g, 0, none⟩) m cap))) (hq1 : q < cs.length) (_hkn : n ≤ key)
    (hG : ∀ w w' r, I w → w.grownBy w' r → (∀ b, r = some b → B ≤ b) → I w')
    (h : Plan P ops Q n I d k (i + 1) ((key, res B e sz (cs.set q v) (.slice (some ⟨g, 0, none⟩) m cap)) :: sieve E)) (hq : d = false ∨ barB ops i = true := by first | exact .inl rfl | exact .inr (by kernel_rfl)) : Plan P ops Q n I d (k + 1) i E := by
  refine .inr ⟨hq, ?_⟩
  intro a w hI hsh hs
  have e1 := opF_den (i := i) (f := .ex (.pointer (some ((⟨g, 0, none⟩ : Addr).add q)))) ho (x := p) (by simp [hop, Op.operands]) (fun t _ f hf => hs t f hf) hp
  have e3 := opF_den (i := i) (f := .ex v) ho (x := x) (by simp [hop, Op.operands]) (fun t _ f hf => hs t f hf) hx
  have e2 : ownH B e sz cs w _ := hs key _ hk
  simp only [Fa.den] at e1 e3
  have hadd : (⟨g, 0, none⟩ : Addr).add q = ⟨g, q, none⟩ := by unfold Addr.add; split <;> simp_all
  have hc := own_cell e2 (List.getElem?_eq_getElem hq1)
  obtain ⟨hB, m', hown⟩ := id e2
  have hmm : m' = m := by
    rcases hown.2 with ⟨h0, _⟩ | ⟨g', cap', cur, hv, _⟩
    · simp at h0
    · cases hv; rfl
  subst hmm
  have hfr := hown.frozenAt q
  obtain ⟨hst, hgr⟩ := hown.stored q v
  rw [hadd] at e1 hc
  unfold wpOp
  simp only [ho, wantB_spec ho hsh (fun t _ f hf => hs t f hf) hg, if_true]
  refine .inl ?_
  unfold Oper.wp
  have hr : (execOp a.eval o).run P w = .ok .skip (w.setCell ⟨g, q, none⟩ v) := by
    have hst := run_store P w ⟨g, q, none⟩ v .plain hone
    simp only [hc, hfr] at hst
    simp [execOp, hop, e1, e3, Instr.storeAt, Instr.sureAddr, storeVar, hc1, sizeOf, typeInfo, hu, hti, storeCells, Addr.add, hst]
  rw [hr]
  show ∃ E', _ ∧ I _ ∧ Sh n (a.put o.dst undef) ∧ Sat E' (a.put o.dst undef) _
  rw [hdst]
  refine ⟨_, h, hG w _ _ hI hgr ?_, hsh, ?_⟩
  · intro b hb
    cases hb
    rcases hown.2 with ⟨h0, _⟩ | ⟨g', cap', cur, hv, hbg, _⟩
    · simp at h0
    · cases hv; exact hbg
  · intro s f hf
    simp only [look] at hf
    by_cases hks : key = s
    · subst hks
      simp only [if_true, Option.some.injEq] at hf
      subst hf
      show ownH B e sz (cs.set q v) _ _
      exact ⟨Nat.le_trans hB hgr.size, m', hst⟩
    · rw [if_neg hks] at hf
      exact sieve_sat hs _ s f hf

theorem Plan.min2 {ts : Array TypeId} {x y : Operand} {kd : IntKind} {p q : Int} (ho : ops[i]? = some o) (hop : o.op = .call { callee := .builtin .min, args := #[x, y], argTypes := ts }) (hg : wantB ops E o = some true)
    (hx : opF E x = some (.ex (.int kd p))) (hy : opF E y = some (.ex (.int kd q)))
    (h : Plan P ops Q n I d k (i + 1) (setE o.dst (.ex (.int kd (if q < p then q else p))) E)) : Plan P ops Q n I d (k + 1) i E :=
  Plan.step ho (Step.run ho hg fun a w _ hs => by
    have h1 := hs x (by simp [hop, Op.operands, Call.operands]) _ hx
    have h2 := hs y (by simp [hop, Op.operands, Call.operands]) _ hy
    simp only [Fa.den] at h1 h2
    refine ⟨_, w, ?_, Below.refl _ _, by simp only [Fa.den]; rfl⟩
    simp only [execOp, hop, resolve, invoke, builtin, List.map_toArray, List.map_cons, List.map_nil, h1, h2, Sem.run_bind, Sem.run_pure, Result.andThen_ok, run_min_int2]) h
theorem Plan.max2 {ts : Array TypeId} {x y : Operand} {kd : IntKind} {p q : Int} (ho : ops[i]? = some o) (hop : o.op = .call { callee := .builtin .max, args := #[x, y], argTypes := ts }) (hg : wantB ops E o = some true)
    (hx : opF E x = some (.ex (.int kd p))) (hy : opF E y = some (.ex (.int kd q)))
    (h : Plan P ops Q n I d k (i + 1) (setE o.dst (.ex (.int kd (if q > p then q else p))) E)) : Plan P ops Q n I d (k + 1) i E :=
  Plan.step ho (Step.run ho hg fun a w _ hs => by
    have h1 := hs x (by simp [hop, Op.operands, Call.operands]) _ hx
    have h2 := hs y (by simp [hop, Op.operands, Call.operands]) _ hy
    simp only [Fa.den] at h1 h2
    refine ⟨_, w, ?_, Below.refl _ _, by simp only [Fa.den]; rfl⟩
    simp only [execOp, hop, resolve, invoke, builtin, List.map_toArray, List.map_cons, List.map_nil, h1, h2, Sem.run_bind, Sem.run_pure, Result.andThen_ok, run_max_int2]) h
end
end Go.Free
