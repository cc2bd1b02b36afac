/-
  Laid together: FreeEff, FreeMem, FreeSeat, FreeMore, FreeNest, FreeMore2, FreeHeap, FreeHeap2, FreeHeap3.
-/
import Derived.Test.YtmljgobenlpnfaaGreatTLPA
import Derived.KernelRfl
import Derived.Test.YtmljgobenlpnfaaGreatRows
import Derived.IntWalk
import Derived.Laws.BitsAllLaws
import Derived.Laws.Bits64
import Derived.Laws.Tables
import Derived.Laws.Pointers
set_option linter.unusedSimpArgs false
set_option linter.unusedVariables false
set_option maxRecDepth 20000

section
namespace Go.Free
open Go.RowKit
structure Elt (P : Program) (t e : TypeId) (z : Value) (sz bytes : Nat) : Prop where
  ht : P.underlying t = some (.slice e)
  hi : ∃ i, P.info? e = some i ∧ i.zero = some z ∧ i.size = sz ∧ i.bytes = bytes
  hz : z.cells.size = sz
  hs : 0 < sz
  hb : 0 < bytes
theorem Elt.mk' {P : Program} {t e : TypeId} {z : Value} {sz bytes : Nat} (ht : P.underlying t = some (.slice e)) (hi : (P.info? e).map (fun i => (i.zero, i.size, i.bytes)) = some (some z, sz, bytes)) (hz : z.cells.size = sz) (hs : 0 < sz) (hb : 0 < bytes) : Elt P t e z sz bytes :=
  ⟨ht, by obtain ⟨i, h1, h2, h3, h4⟩ := info_parts hi; exact ⟨i, h1, h2, h3, h4⟩, hz, hs, hb⟩
theorem run_append_rows {P : Program} {w : World} {t ty e : TypeId} {z : Value} {sz bytes B : Nat} {xs news : List Value} {v y : Value} (he : Elt P t e z sz bytes)
    (hown : ownH B e sz xs w v) (hy : rowH sz news w y) (h1 : ∀ u ∈ news, u.oneCell' = true) (hlim : (xs.length + news.length) * bytes ≤ 140737488355328 * sz) :
    ∃ v' w', (Builtin.append_ #[t, t] ty #[v, y]).run P w = .ok v' w' ∧ ownH B e sz (xs ++ news) w' v' ∧ w.grownBy w' v.ownBlock := by
  obtain ⟨i, hi, hz, hsz, hby⟩ := he.hi
  obtain ⟨hB, n, hn⟩ := hown
  obtain ⟨A, m, c, rfl, hmc, hc, hl, hnil, hcell⟩ := hy
  have hpos := he.hs
  have hnm : (n + m) * bytes ≤ 140737488355328 := by
    have e1 : (xs.length + news.length) = (n + m) * sz := by rw [hn.1, hl, Nat.add_mul]
    rw [e1, Nat.mul_assoc, Nat.mul_comm sz bytes, ← Nat.mul_assoc] at hlim
    exact Nat.le_of_mul_le_mul_right hlim hpos
  have h63 : n + m ≤ maxLen := by
    have := he.hb
    have h2 : n + m ≤ (n + m) * bytes := Nat.le_mul_of_pos_right _ this
    simp only [maxLen]; omega
  cases A with
  | none =>
    obtain rfl := hnil rfl
    obtain rfl : m = 0 := by omega
    have hnews : news = [] := List.eq_nil_of_length_eq_zero (by simpa using hl)
    subst hnews
    refine ⟨v, w, run_append_owned_none w B t ty e i sz he.ht hi v n xs hn, ⟨hB, n, by simpa using hn⟩, ⟨rfl, rfl, rfl, Nat.le_refl _, fun _ _ _ => rfl⟩⟩
  | some ad =>
    obtain ⟨v', w', hr, h2, h3, _⟩ := run_append_own (P := P) w B t ty e i z sz bytes he.ht hi hz hsz hby he.hz hpos v n xs hn ad m c news hl (fun j u hu => by
      obtain ⟨ad', hA, hc⟩ := hcell j u hu
      cases hA; exact hc) h1 h63 hnm hB
    exact ⟨v', w', hr, ⟨Nat.le_trans hB h3.size, _, h2⟩, h3⟩
/-! ### What stays known when memory of the call's own is turned -/
def keeps : Fa → Bool
  | .ex _ => true
  | .old _ _ => true
  | _ => false
def sieve : Env → Env
  | [] => []
  | (t, f) :: r => (t, if keeps f then f else Fa.any) :: sieve r
theorem keeps_den {f : Fa} (h : keeps f = true) {w w' : World} {v : Value} (hd : f.den w v) : f.den w' v := by
  cases f with
  | ex u => exact hd
  | old w0 g => simpa only [Fa.den] using hd
  | is p => cases h
  | tup l => cases h
theorem any_den (w : World) (v : Value) : Fa.any.den w v := by simp [Fa.any, Fa.den]
theorem look_sieve : ∀ {E : Env} {t : Nat} {f : Fa}, look (sieve E) t = some f → ∃ g, look E t = some g ∧ f = if keeps g then g else Fa.any
  | [], t, f, h => by simp [sieve, look] at h
  | (s, g) :: r, t, f, h => by
    simp only [sieve, look] at h ⊢
    by_cases hs : s = t
    · simp only [hs, if_true, Option.some.injEq] at h ⊢; exact ⟨g, rfl, h.symm⟩
    · rw [if_neg hs] at h ⊢; exact look_sieve h
theorem sieve_sat {E : Env} {a : Act} {w : World} (hs : Sat E a w) (w' : World) : Sat (sieve E) a w' := fun t f hf => by
  obtain ⟨g, hg, rfl⟩ := look_sieve hf
  split
  · rename_i hk; exact keeps_den hk (hs t g hg)
  · exact any_den _ _
section
variable {P : Program} {ops : Array Oper} {Q : Exit → Act → World → Prop} {n : Nat} {I : World → Prop} {k i : Nat} {E : Env} {o : Oper}
theorem Plan.eff {F : Fa} {d : Bool} (ho : ops[i]? = some o) (hg : wantB ops E o = some true) (hd : ∀ d, o.dst = some d → d < n)
    (h : ∀ a w, I w → Sat E a w → (∀ x, x ∈ o.op.operands → ∀ f, opF E x = some f → f.den w (a.eval x)) →
      ∃ (v : Value) (w' : World), ((execOp a.eval o).run P w = .ok (.value v) w' ∨ ((execOp a.eval o).run P w = .ok .skip w' ∧ v = undef)) ∧ I w' ∧ F.den w' v)
    (hq : d = false ∨ barB ops i = true)
    (hp : Plan P ops Q n I d k (i + 1) (setE o.dst F (sieve E))) : Plan P ops Q n I d (k + 1) i E := by
  refine .inr ⟨hq, ?_⟩
  intro a w hI hsh hs
  obtain ⟨v, w', hr, hI', hF⟩ := h a w hI hs (fun x hx f hf => opF_den ho hx (fun t _ f hf => hs t f hf) hf)
  unfold wpOp
  simp only [ho, wantB_spec ho hsh (fun t _ f hf => hs t f hf) hg, if_true]
  refine .inl ?_
  unfold Oper.wp
  have fin : ∃ E', Plan P ops Q n I d k (i + 1) E' ∧ I w' ∧ Sh n (a.put o.dst v) ∧ Sat E' (a.put o.dst v) w' := by
    refine ⟨_, hp, hI', hsh.put _ _, ?_⟩
    intro t f hf
    cases hdst : o.dst with
    | none => rw [hdst] at hf; exact sieve_sat hs w' t f hf
    | some d =>
      rw [hdst] at hf
      simp only [setE, look] at hf
      by_cases hdt : d = t
      · subst hdt
        simp only [if_true, Option.some.injEq] at hf
        subst hf
        rw [slot_put_same hsh (hd d hdst)]
        exact hF
      · rw [if_neg hdt] at hf
        rw [slot_put_ne a hdt]
        exact sieve_sat hs w' t f hf
  rcases hr with hr | ⟨hr, rfl⟩ <;> rw [hr] <;> exact fin
theorem Plan.append {x y : Operand} {t e : TypeId} {z : Value} {sz bytes B : Nat} {xs news : List Value} {g f : Fa} {d : Bool} (ho : ops[i]? = some o) (hop : o.op = .call { callee := .builtin .append, args := #[x, y], argTypes := #[t, t] })
    (hg : wantB ops E o = some true) (hx : opF E x = some f) (hfs : Sub I f (own B e sz xs)) (hy : opF E y = some g) (hs : Sub I g (row sz news)) (he : Elt P t e z sz bytes) (hd : ∀ d, o.dst = some d → d < n)
    (hG : ∀ w w' r, I w → w.grownBy w' r → (∀ b, r = some b → B ≤ b) → I w')
    (h1 : ∀ u ∈ news, u.oneCell' = true) (hlim : (xs.length + news.length) * bytes ≤ 140737488355328 * sz)
    (h : Plan P ops Q n I d k (i + 1) (setE o.dst (own B e sz (xs ++ news)) (sieve E))) (hq : d = false ∨ barB ops i = true := by first | exact .inl rfl | exact .inr (by kernel_rfl)) : Plan P ops Q n I d (k + 1) i E :=
  Plan.eff ho hg hd (fun a w hI _ hs' => by
    have e1 := hfs w _ hI (hs' x (by simp [hop, Op.operands, Call.operands]) _ hx)
    have e2 := hs w _ hI (hs' y (by simp [hop, Op.operands, Call.operands]) _ hy)
    simp only [own, row, rowP, Fa.den] at e1 e2
    obtain ⟨v', w', hr, h2, h3⟩ := run_append_rows (ty := o.type) he e1 e2 h1 hlim
    refine ⟨v', w', .inl ?_, hG w w' _ hI h3 ?_, by simpa only [own, Fa.den] using h2⟩
    · simp only [execOp, hop, resolve, invoke, builtin, List.map_toArray, List.map_cons, List.map_nil, Sem.run_bind, Sem.run_pure, Result.andThen_ok, hr]
    · intro b hb
      obtain ⟨_, m, hm⟩ := e1
      exact (hm.lt b hb).1) hq h
theorem Plan.appendStr {x y : Operand} {t u e : TypeId} {B : Nat} {xs : List Value} {p : List UInt8} {f : Fa} {d : Bool} (ho : ops[i]? = some o) (hop : o.op = .call { callee := .builtin .append, args := #[x, y], argTypes := #[t, u] })
    (hg : wantB ops E o = some true) (hx : opF E x = some f) (hfs : Sub I f (own B e 1 xs)) (hy : opF E y = some (.ex (str p))) (hu : P.underlying u = some .string) (he : Elt P t e (.int .u8 0) 1 1) (hd : ∀ d, o.dst = some d → d < n)
    (hG : ∀ w w' r, I w → w.grownBy w' r → (∀ b, r = some b → B ≤ b) → I w')
    (hlim : xs.length + p.length ≤ 140737488355328)
    (h : Plan P ops Q n I d k (i + 1) (setE o.dst (own B e 1 (xs ++ bs p)) (sieve E))) (hq : d = false ∨ barB ops i = true := by first | exact .inl rfl | exact .inr (by kernel_rfl)) : Plan P ops Q n I d (k + 1) i E :=
  Plan.eff ho hg hd (fun a w hI _ hs' => by
    have e1 := hfs w _ hI (hs' x (by simp [hop, Op.operands, Call.operands]) _ hx)
    have e2 := hs' y (by simp [hop, Op.operands, Call.operands]) _ hy
    simp only [own, Fa.den, str] at e1 e2
    obtain ⟨inf, hi, hz, hsz, hby⟩ := he.hi
    obtain ⟨hB, m, hm⟩ := id e1
    have hml : m = xs.length := by have := hm.1; omega
    have hps : (ByteArray.mk p.toArray).size = p.length := by simp [ByteArray.size]
    obtain ⟨v', w', hr, h2, h3, _⟩ := Lib.run_append_own_string (P := P) w B t u o.type e inf he.ht hu hi hz hsz hby (a.eval x) m xs hm ⟨p.toArray⟩ (by rw [hps, hml]; simp only [maxLen]; omega) (by rw [hps, hml]; exact hlim) hB
    have hcells : Lib.strCells ⟨p.toArray⟩ = bs p := by simp [Lib.strCells, bs]
    rw [hcells] at h2
    refine ⟨v', w', .inl ?_, hG w w' _ hI h3 ?_, ?_⟩
    · simp only [execOp, hop, resolve, invoke, builtin, List.map_toArray, List.map_cons, List.map_nil, Sem.run_bind, Sem.run_pure, Result.andThen_ok, e2, hr]
    · intro b hb; exact (hm.lt b hb).1
    · simp only [own, Fa.den]; exact ⟨Nat.le_trans hB h3.size, _, h2⟩) hq h
theorem Plan.make0 {x y : Operand} {t e : TypeId} {z : Value} {sz bytes B c : Nat} {kl kc : IntKind} (ho : ops[i]? = some o) (hop : o.op = .makeSlice t x y)
    (hg : wantB ops E o = some true) (hx : opF E x = some (.ex (.int kl 0))) (hy : opF E y = some (.ex (.int kc c))) (he : Elt P t e z sz bytes) (hB : ∀ w, I w → B ≤ w.heap.size)
    (hlim : bytes * c ≤ 281474976710656) {d : Bool}
    (h : Plan P ops Q n I d k (i + 1) (setE o.dst (own B e sz []) E)) : Plan P ops Q n I d (k + 1) i E :=
  Plan.step ho (Step.run ho hg fun a w hI hs => by
    have e1 := hs x (by simp [hop, Op.operands]) _ hx
    have e2 := hs y (by simp [hop, Op.operands]) _ hy
    simp only [Fa.den] at e1 e2
    obtain ⟨inf, hi, hz, hsz, hby⟩ := he.hi
    obtain ⟨w', hr, h1, h2⟩ := run_make_own (P := P) w B t e inf z sz he.ht hi hz hsz kl kc c (by rw [hby]; exact hlim) (by
      have := he.hb
      have h3 : c ≤ bytes * c := Nat.le_mul_of_pos_left _ this
      simp only [maxLen]; omega) (hB w hI)
    refine ⟨.slice (some ⟨w.heap.size, 0, none⟩) 0 c, w', ?_, ⟨h2.os, h2.tape, h2.output, h2.size, fun j hj => h2.block j hj (by simp)⟩, ?_⟩
    rotate_left
    · simp only [own, Fa.den]
      exact ⟨Nat.le_trans (hB w hI) h2.size, 0, h1⟩
    · simp only [execOp, hop, e1, e2, Sem.run_bind, hr, Result.andThen_ok, Sem.run_pure]) h
end
/-! ### Literals -/
theorem foldl_set (vs : List Value) : ∀ (off k : Nat) (cs : Array Value), off + k + vs.length ≤ cs.size →
    ((vs.zipIdx k).foldl (fun cs (p : Value × Nat) => cs.setIfInBounds (off + p.2) p.1) cs).toList = cs.toList.take (off + k) ++ vs ++ cs.toList.drop (off + k + vs.length) := by
  induction vs with
  | nil => intro off k cs _; simp
  | cons v vs ih =>
    intro off k cs h
    simp only [List.length_cons] at h
    simp only [List.zipIdx_cons, List.foldl_cons]
    rw [ih off (k + 1) _ (by simp; omega)]
    have hk : off + k < cs.toList.length := by simp; omega
    have e1 : (cs.setIfInBounds (off + k) v).toList = cs.toList.set (off + k) v := by simp
    rw [e1]
    have e2 : (cs.toList.set (off + k) v).take (off + (k + 1)) = cs.toList.take (off + k) ++ [v] := by
      rw [show off + (k + 1) = off + k + 1 by omega, List.take_succ_eq_append_getElem (by simpa using hk), List.take_set, List.set_eq_of_length_le (by simp; omega)]
      simp
    have e3 : (cs.toList.set (off + k) v).drop (off + (k + 1) + vs.length) = cs.toList.drop (off + k + (v :: vs).length) := by
      rw [List.drop_set_of_lt (by omega)]
      congr 1
      simp; omega
    rw [e2, e3]
    simp
def numbered : List Value → Nat → List (Nat × Value)
  | [], _ => []
  | v :: vs, m => (m, v) :: numbered vs (m + 1)
def flat (vs : List Value) : List Value := vs.flatMap fun v => v.cells.toList
theorem flat_length {vs : List Value} {sz : Nat} (h : ∀ v ∈ vs, v.cells.size = sz) : (flat vs).length = vs.length * sz := by
  induction vs with
  | nil => simp [flat]
  | cons v vs ih =>
    have h1 := h v List.mem_cons_self
    have h2 := ih (fun u hu => h u (List.mem_cons_of_mem _ hu))
    simp only [flat, List.flatMap_cons, List.length_append, List.length_cons, Nat.add_mul, Nat.one_mul] at h2 ⊢
    rw [h2, Array.length_toList, h1]; omega
theorem fill_numbered {sz : Nat} (vs : List Value) : ∀ (m : Nat) (cs : Array Value), (∀ v ∈ vs, v.cells.size = sz) → (m + vs.length) * sz ≤ cs.size →
    ∃ cs', Instr.fill (fun i => some (i * sz, sz)) cs (numbered vs m) = some cs' ∧ cs'.toList = cs.toList.take (m * sz) ++ flat vs ++ cs.toList.drop ((m + vs.length) * sz) := by
  induction vs with
  | nil => intro m cs _ _; exact ⟨cs, rfl, by simp [flat]⟩
  | cons v vs ih =>
    intro m cs hs hl
    have hv := hs v List.mem_cons_self
    have hvs : ∀ u ∈ vs, u.cells.size = sz := fun u hu => hs u (List.mem_cons_of_mem _ hu)
    simp only [List.length_cons] at hl
    have e0 : (m + (vs.length + 1)) * sz = m * sz + sz + vs.length * sz := by rw [Nat.add_mul, Nat.add_mul]; omega
    have hfs := foldl_set v.cells.toList (m * sz) 0 cs (by rw [Array.length_toList, hv]; omega)
    simp only [Nat.add_zero, Array.length_toList, hv] at hfs
    have hfold : (v.cells.zipIdx.foldl (fun cs (x : Value × Nat) => cs.setIfInBounds (m * sz + x.2) x.1) cs).toList = cs.toList.take (m * sz) ++ v.cells.toList ++ cs.toList.drop (m * sz + sz) := by
      rw [← hfs, ← Array.foldl_toList, Array.toList_zipIdx]
    obtain ⟨c1, hc1⟩ : ∃ c1, c1 = v.cells.zipIdx.foldl (fun cs (x : Value × Nat) => cs.setIfInBounds (m * sz + x.2) x.1) cs := ⟨_, rfl⟩
    rw [← hc1] at hfold
    have hsize : c1.size = cs.size := by
      have := congrArg List.length hfold
      simp only [Array.length_toList, List.length_append, List.length_take, List.length_drop, hv] at this
      omega
    obtain ⟨cs', h1, h2⟩ := ih (m + 1) c1 hvs (by rw [hsize, show m + 1 + vs.length = m + (vs.length + 1) by omega]; exact hl)
    refine ⟨cs', ?_, ?_⟩
    · simp only [numbered, Instr.fill, hv]
      rw [if_neg (by simp; omega)]
      rw [← hc1]; exact h1
    · rw [h2, hfold]
      have e1 : ((m + 1) * sz) = m * sz + sz := by rw [Nat.add_mul]; omega
      have hlen : (cs.toList.take (m * sz) ++ v.cells.toList).length = m * sz + sz := by
        simp only [List.length_append, List.length_take, Array.length_toList, hv]; omega
      rw [e1]
      have e2 : (cs.toList.take (m * sz) ++ v.cells.toList ++ cs.toList.drop (m * sz + sz)).take (m * sz + sz) = cs.toList.take (m * sz) ++ v.cells.toList := List.take_left' hlen
      have e3 : (cs.toList.take (m * sz) ++ v.cells.toList ++ cs.toList.drop (m * sz + sz)).drop ((m + 1 + vs.length) * sz) = cs.toList.drop ((m + (v :: vs).length) * sz) := by
        have e4 : (m + 1 + vs.length) * sz = (m * sz + sz) + vs.length * sz := by rw [Nat.add_mul, Nat.add_mul, Nat.one_mul]
        have e5 : (m + (v :: vs).length) * sz = (m * sz + sz) + vs.length * sz := by rw [List.length_cons, Nat.add_mul, Nat.add_mul, Nat.one_mul]; omega
        rw [e4, e5, ← hlen, ← List.drop_drop, List.drop_left, hlen, List.drop_drop]
      rw [e2, e3]
      simp [flat]
def litVals (E : Env) : List (Nat × Operand) → Nat → Option (List Value)
  | [], _ => some []
  | (j, x) :: r, m => if j = m then (match opF E x with
      | some (.ex v) => (match litVals E r (m + 1) with
        | some vs => some (v :: vs)
        | none => none)
      | _ => none) else none
theorem litVals_spec {E : Env} {a : Act} {w : World} : ∀ {ps : List (Nat × Operand)} {m : Nat} {vs : List Value}, litVals E ps m = some vs → (∀ p, p ∈ ps → ∀ f, opF E p.2 = some f → f.den w (a.eval p.2)) →
    ps.map (fun p => (p.1, a.eval p.2)) = numbered vs m
  | [], m, vs, h, _ => by simp only [litVals, Option.some.injEq] at h; subst h; rfl
  | (j, x) :: r, m, vs, h, hs => by
    simp only [litVals] at h
    by_cases hj : j = m
    · subst hj
      simp only [if_true] at h
      cases hx : opF E x with
      | none => rw [hx] at h; cases h
      | some f =>
        rw [hx] at h
        cases f with
        | ex v =>
          simp only at h
          cases hr : litVals E r (j + 1) with
          | none => rw [hr] at h; cases h
          | some us =>
            rw [hr] at h
            simp only [Option.some.injEq] at h
            subst h
            have e1 := hs (j, x) List.mem_cons_self _ hx
            simp only [Fa.den] at e1
            simp only [List.map_cons, numbered, e1]
            rw [litVals_spec hr fun p hp => hs p (List.mem_cons_of_mem _ hp)]
        | is p => cases h
        | tup l => cases h
        | old w0 g => cases h
    · rw [if_neg hj] at h; cases h
section
variable {P : Program} {ops : Array Oper} {Q : Exit → Act → World → Prop} {n : Nat} {I : World → Prop} {k i : Nat} {E : Env} {o : Oper} {d : Bool}
theorem lit_run {t e : TypeId} {z : Value} {sz bytes B m : Nat} {ps : List (Nat × Operand)} {vs : List Value} {a : Act} {w : World} (hop : o.op = .buildSlice t m ps.toArray)
    (he : Elt P t e z sz bytes) (hv : litVals E ps 0 = some vs) (hs : ∀ x, x ∈ o.op.operands → ∀ f, opF E x = some f → f.den w (a.eval x)) (hB : B ≤ w.heap.size)
    (hm : vs.length = m) (hsz : ∀ v ∈ vs, v.cells.size = sz) (hlim : m * sz ≤ 16777216) : ∃ v w', (execOp a.eval o).run P w = .ok (.value v) w' ∧ Below w.heap.size w w' ∧ ownH B e sz (flat vs) w' v := by
    obtain ⟨inf, hi, hz, hs1, hby⟩ := he.hi
    have hps := litVals_spec (a := a) (w := w) hv (fun p hp f hf => hs p.2 (by
      simp only [hop, Op.operands, List.mem_toArray, List.mem_map]
      exact ⟨p, hp, rfl⟩) f hf)
    have hpos := he.hs
    obtain ⟨cs0, hcs0⟩ : ∃ cs0 : Array Value, cs0 = (Array.range (m * sz)).map (fun j => (if m * sz = 0 then (#[] : Array Value) else z.cells)[j % (if m * sz = 0 then (#[] : Array Value) else z.cells).size]!) := ⟨_, rfl⟩
    have hsize0 : cs0.size = m * sz := by rw [hcs0]; simp
    obtain ⟨cs', hf, hl⟩ := fill_numbered (sz := sz) vs 0 cs0 hsz (by rw [hsize0, Nat.zero_add, hm]; exact Nat.le_refl _)
    have hl' : cs'.toList = flat vs := by
      rw [hl]
      simp only [Nat.zero_mul, List.take_zero, List.nil_append, Nat.zero_add, hm]
      rw [List.drop_of_length_le (by rw [Array.length_toList, hsize0]; exact Nat.le_refl _), List.append_nil]
    have hsz' : cs'.size = m * sz := by rw [← Array.length_toList, hl', flat_length hsz, hm]
    refine ⟨.slice (some ⟨w.heap.size, 0, none⟩) m m, w.alloc (.cells cs' e), ?_, ((Below.refl _ _).alloc (Nat.le_refl _) _), ?_⟩
    · have hrun : (Instr.buildSlice t m (numbered vs 0).toArray).run P w = .ok (.slice (some ⟨w.heap.size, 0, none⟩) m m) (w.alloc (.cells cs' e)) := by
        unfold Instr.buildSlice
        have hle : ¬ (m * sz > 2 ^ 24) := by omega
        by_cases h0 : m * sz = 0
        · simp only [h0, if_true] at hcs0
          simp [run_underlying he.ht, sizeOf, typeInfo, hi, hs1, h0, newRow]
          rw [hcs0] at hf
          simp at hf
          simp [hf]
        · simp only [h0, if_false] at hcs0
          have hf' := hf
          rw [hcs0] at hf'
          simp [run_underlying he.ht, sizeOf, typeInfo, hi, hs1, hle, h0, newRow, zeroValue, hz]
          rw [hf']
          simp
      have hmap : (ps.toArray.map fun (p : Nat × Operand) => (p.1, a.eval p.2)) = (numbered vs 0).toArray := by rw [← hps]; simp
      simp only [execOp, hop]
      rw [show (ps.toArray.map fun (x : Nat × Operand) => match x with | (i, x) => (i, a.eval x)) = (numbered vs 0).toArray from hmap]
      simp only [Sem.run_bind, hrun, Result.andThen_ok, Sem.run_pure]
    · refine ⟨Nat.le_trans (hB) (by simp), m, ?_⟩
      have := World.ownsRow_lit (base := B) (e := e) (size := sz) w cs' m (hB) (by simp only [maxLen]; have : m ≤ m * sz := Nat.le_mul_of_pos_right _ hpos; omega) hsz'
      rw [hl'] at this
      exact this
theorem Plan.lit {t e : TypeId} {z : Value} {sz bytes B m : Nat} {ps : List (Nat × Operand)} {vs : List Value} (ho : ops[i]? = some o) (hop : o.op = .buildSlice t m ps.toArray)
    (hg : wantB ops E o = some true) (he : Elt P t e z sz bytes) (hv : litVals E ps 0 = some vs) (hB : ∀ w, I w → B ≤ w.heap.size)
    (hm : vs.length = m) (hsz : ∀ v ∈ vs, v.cells.size = sz) (hlim : m * sz ≤ 16777216)
    (h : Plan P ops Q n I d k (i + 1) (setE o.dst (own B e sz (flat vs)) E)) : Plan P ops Q n I d (k + 1) i E :=
  Plan.step ho (Step.run ho hg fun a w hI hs => by
    obtain ⟨v, w', h1, h2, h3⟩ := lit_run (B := B) (a := a) (w := w) hop he hv hs (hB w hI) hm hsz hlim
    exact ⟨v, w', h1, h2, by simpa only [own, Fa.den] using h3⟩) h
theorem Plan.int {t : Nat} {kd : IntKind} {x y : Int} {E : Env} (hv : x = y) (h : Plan P ops Q n I d k i ((t, .ex (.int kd y)) :: E)) : Plan P ops Q n I d k i ((t, .ex (.int kd x)) :: E) := hv ▸ h
theorem Plan.boolv {t : Nat} {x y : Bool} {E : Env} (hv : x = y) (h : Plan P ops Q n I d k i ((t, .ex (.bool y)) :: E)) : Plan P ops Q n I d k i ((t, .ex (.bool x)) :: E) := hv ▸ h
end
end Go.Free
end

section
namespace Go.Free
open Go.RowKit
/-! ### Addresses of elements, loads -/
def ptrH (cs : List Value) (w : World) (v : Value) : Prop := ∃ a, v = .pointer (some a) ∧ ∀ j u, cs[j]? = some u → w.cell? (a.add j) = some u
theorem ptrH_mono {cs : List Value} {w w' : World} {v : Value} (hb : Below w.heap.size w w') (h : ptrH cs w v) : ptrH cs w' v := by
  obtain ⟨a, rfl, hc⟩ := h
  exact ⟨a, rfl, fun j u hu => (hb.cell (World.block_lt_of_cell? w _ (hc j u hu))).trans (hc j u hu)⟩
def ptrF (cs : List Value) : Fa := .is ⟨ptrH cs, fun _ _ _ hb h => ptrH_mono hb h⟩
theorem add_add (a : Addr) (m j : Nat) : (a.add m).add j = a.add (m + j) := by
  unfold Addr.add
  by_cases h1 : m = 0 <;> by_cases h2 : j = 0 <;> simp [h1, h2, Nat.add_assoc]
def aggB : TypeDesc → Bool
  | .struct _ => true
  | .array _ _ => true
  | _ => false
theorem flatMap_seg {α : Type} (enc : α → List Value) (sz : Nat) (hsz : ∀ x, (enc x).length = sz) (d : α) : ∀ (l : List α) (j : Nat), j < l.length → ((l.flatMap enc).drop (j * sz)).take sz = enc (l.getD j d)
  | [], j, h => by simp at h
  | x :: l, 0, _ => by simp [List.take_left' (hsz x)]
  | x :: l, j + 1, h => by
    have h' : j < l.length := by simpa using h
    have ih := flatMap_seg enc sz hsz d l j h'
    simp only [List.flatMap_cons, List.getD_cons_succ]
    rw [show (j + 1) * sz = (enc x).length + j * sz by rw [hsz, Nat.add_mul]; omega, ← List.drop_drop, List.drop_left]
    exact ih
theorem flatMap_length {α : Type} (enc : α → List Value) (sz : Nat) (hsz : ∀ x, (enc x).length = sz) (l : List α) : (l.flatMap enc).length = l.length * sz := by
  induction l with
  | nil => simp
  | cons x l ih => simp only [List.flatMap_cons, List.length_append, List.length_cons, ih, hsz, Nat.add_mul]; omega
theorem bs_flat (l : List UInt8) : bs l = l.flatMap fun b => [.int .u8 b.toNat] := by
  induction l with
  | nil => rfl
  | cons b l ih => simp [bs] at ih ⊢; exact ih
section
variable {P : Program} {ops : Array Oper} {Q : Exit → Act → World → Prop} {n : Nat} {I : World → Prop} {k i : Nat} {E : Env} {o : Oper} {d : Bool}
theorem Plan.indexAddr {α : Type} {t e : TypeId} {z : Value} {bytes : Nat} {x y : Operand} {g : Fa} {kd : IntKind} {j : Int} (enc : α → List Value) (sz : Nat) (l : List α) (dv : α) (ho : ops[i]? = some o) (hop : o.op = .indexAddr t x y)
    (hg : wantB ops E o = some true) (hx : opF E x = some g) (hs : Sub I g (row sz (l.flatMap enc))) (hy : opF E y = some (.ex (.int kd j))) (he : Elt P t e z sz bytes) (henc : ∀ x, (enc x).length = sz) (h0 : 0 ≤ j) (h1 : j < l.length)
    (h : Plan P ops Q n I d k (i + 1) (setE o.dst (ptrF (enc (l.getD j.toNat dv))) E)) : Plan P ops Q n I d (k + 1) i E :=
  Plan.step ho (Step.run ho hg fun a w hI hs' => by
    have e1 := hs w _ hI (hs' x (by simp [hop, Op.operands]) _ hx)
    have e2 := hs' y (by simp [hop, Op.operands]) _ hy
    simp only [Fa.den, row, rowP] at e1 e2
    obtain ⟨A, m, c, hv, hmc, hc, hl, hnil, hcell⟩ := e1
    obtain ⟨inf, hi, hz, hs1, hby⟩ := he.hi
    have hpos := he.hs
    rw [flatMap_length enc sz henc] at hl
    have hm : m = l.length := (Nat.eq_of_mul_eq_mul_right hpos hl).symm
    have hjl : j.toNat < l.length := by omega
    have hcells : ∀ q u, (enc (l.getD j.toNat dv))[q]? = some u → ∃ ad, A = some ad ∧ w.cell? (ad.add (j.toNat * sz + q)) = some u := by
      intro q u hu
      refine hcell (j.toNat * sz + q) u ?_
      rw [← flatMap_seg enc sz henc dv l j.toNat hjl, List.getElem?_take] at hu
      split at hu
      · rw [List.getElem?_drop] at hu; exact hu
      · cases hu
    have hsome : ∃ ad, A = some ad := by
      have hlt : 0 < (enc (l.getD j.toNat dv)).length := by rw [henc]; exact hpos
      obtain ⟨ad, h2, _⟩ := hcells 0 _ (List.getElem?_eq_getElem hlt)
      exact ⟨ad, h2⟩
    obtain ⟨ad, rfl⟩ := hsome
    refine ⟨.pointer (some (ad.add (j.toNat * sz))), w, ?_, Below.refl _ _, ?_⟩
    · have hj2 : j < (m : Int) := by omega
      simp [execOp, hop, hv, e2, Instr.indexAt, asIntOf, run_underlying he.ht, h0, hj2, sizeOf, typeInfo, hi, hs1]
    · refine ⟨_, rfl, fun q u hu => ?_⟩
      obtain ⟨ad', h2, h3⟩ := hcells q u hu
      cases h2
      rw [add_add]; exact h3) h
theorem Plan.load {t : TypeId} {u : TypeDesc} {x : Operand} {g : Fa} {v : Value} (ho : ops[i]? = some o) (hop : o.op = .load t x) (hg : wantB ops E o = some true)
    (hx : opF E x = some g) (hs : Sub I g (ptrF [v])) (hu : P.underlying t = some u) (hna : aggB u = false)
    (h : Plan P ops Q n I d k (i + 1) (setE o.dst (.ex v) E)) : Plan P ops Q n I d (k + 1) i E :=
  Plan.step ho (Step.run ho hg fun a w hI hs' => by
    have e1 := hs w _ hI (hs' x (by simp [hop, Op.operands]) _ hx)
    obtain ⟨ad, hv, hc⟩ := e1
    have hc0 := hc 0 v rfl
    simp only [Addr.add, if_true] at hc0
    refine ⟨v, w, ?_, Below.refl _ _, by simp [Fa.den]⟩
    have hagg : (isAgg t).run P w = .ok false w := by
      cases u <;> simp [aggB] at hna <;> simp [isAgg, run_underlying hu]
    simp [execOp, hop, hv, Instr.loadAt, Instr.sureAddr, loadVar, hagg, run_load, hc0]) h
theorem run_loadCellsFrom (a : Addr) (w : World) : ∀ (m i : Nat) (acc : Array Value) (cs : List Value), cs.length = m → (∀ j u, cs[j]? = some u → w.cell? (a.add (i + j)) = some u) →
    (loadCellsFrom a i m acc).run P w = .ok (acc ++ cs.toArray) w
  | 0, i, acc, cs, hl, _ => by
    have : cs = [] := List.eq_nil_of_length_eq_zero hl
    subst this; simp [loadCellsFrom]
  | m + 1, i, acc, [], hl, _ => by simp at hl
  | m + 1, i, acc, c :: cs, hl, hc => by
    have h0 := hc 0 c rfl
    simp only [Nat.add_zero] at h0
    have ih := run_loadCellsFrom a w m (i + 1) (acc.push c) cs (by simpa using hl) (fun j u hu => by
      have := hc (j + 1) u (by simpa using hu)
      rw [← this]; congr 2; omega)
    simp [loadCellsFrom, run_load, h0, ih]
theorem Plan.loadAgg {t : TypeId} {u : TypeDesc} {x : Operand} {g : Fa} {cs : List Value} {inf : TypeInfo} (ho : ops[i]? = some o) (hop : o.op = .load t x) (hg : wantB ops E o = some true)
    (hx : opF E x = some g) (hs : Sub I g (ptrF cs)) (hu : P.underlying t = some u) (hna : aggB u = true) (hi : P.info? t = some inf) (hsz : inf.size = cs.length)
    (h : Plan P ops Q n I d k (i + 1) (setE o.dst (.ex (.agg cs.toArray)) E)) : Plan P ops Q n I d (k + 1) i E :=
  Plan.step ho (Step.run ho hg fun a w hI hs' => by
    have e1 := hs w _ hI (hs' x (by simp [hop, Op.operands]) _ hx)
    obtain ⟨ad, hv, hc⟩ := e1
    refine ⟨.agg cs.toArray, w, ?_, Below.refl _ _, by simp [Fa.den]⟩
    have hagg : (isAgg t).run P w = .ok true w := by
      cases u <;> simp [aggB] at hna <;> simp [isAgg, run_underlying hu]
    have hl := run_loadCellsFrom (P := P) ad w cs.length 0 #[] cs rfl (fun j u hu => by simpa using hc j u hu)
    simp [execOp, hop, hv, Instr.loadAt, Instr.sureAddr, loadVar, hagg, sizeOf, typeInfo, hi, hsz, loadCells, hl]) h
theorem rowH_take {sz m : Nat} {cs : List Value} {w : World} {A : Option Addr} {len c : Nat} (h : rowH sz cs w (.slice A len c)) (hm : m ≤ len) : rowH sz (cs.take (m * sz)) w (.slice A m c) := by
  obtain ⟨A', n', c', hv, h1, h2, h3, h4, h5⟩ := h
  cases hv
  refine ⟨A, m, c, rfl, by omega, h2, ?_, h4, fun j u hu => ?_⟩
  · rw [List.length_take, h3]; exact Nat.min_eq_left (Nat.mul_le_mul_right _ hm)
  · rw [List.getElem?_take] at hu
    split at hu
    · exact h5 j u hu
    · cases hu
theorem rowH_drop {sz m : Nat} {cs : List Value} {w : World} {A : Option Addr} {len c : Nat} (h : rowH sz cs w (.slice A len c)) (hm : m ≤ len) :
    rowH sz (cs.drop (m * sz)) w (.slice (if c = m then A else A.map (·.add (m * sz))) (len - m) (c - m)) := by
  obtain ⟨A', n', c', hv, h1, h2, h3, h4, h5⟩ := h
  cases hv
  refine ⟨_, _, _, rfl, by omega, by omega, ?_, ?_, fun j u hu => ?_⟩
  · rw [List.length_drop, h3, Nat.sub_mul]
  · intro hA
    split at hA
    · omega
    · cases A with
      | none => have := h4 rfl; omega
      | some ad => simp at hA
  · rw [List.getElem?_drop] at hu
    obtain ⟨ad, rfl, hc⟩ := h5 _ u hu
    have hlt : m * sz + j < len * sz := by rw [← h3]; exact (List.getElem?_eq_some_iff.1 hu).1
    have hcm : ¬ c = m := by
      intro e
      have : len * sz ≤ m * sz := Nat.mul_le_mul_right _ (by omega)
      omega
    rw [if_neg hcm]
    exact ⟨_, rfl, by rw [add_add]; exact hc⟩
theorem run_sliceBound_ok {w : World} {kd : IntKind} {i : Int} {y : Nat} {code : BoundsCode} (h0 : 0 ≤ i) (h1 : i ≤ y) : (Instr.sliceBound (.int kd i) y code).run P w = .ok i.toNat w := by
  simp [Instr.sliceBound, asIntOf, h0, h1]
theorem Plan.sliceRow {t e : TypeId} {z : Value} {sz bytes : Nat} {x : Operand} {lo hi : Option Operand} {g : Fa} {cs : List Value} {m a0 b0 : Nat} (ho : ops[i]? = some o) (hop : o.op = .slice t x lo hi none)
    (hg : wantB ops E o = some true) (hx : opF E x = some g) (hs : Sub I g (row sz cs)) (he : Elt P t e z sz bytes) (hm : cs.length = m * sz)
    (hlo : (lo = none ∧ a0 = 0) ∨ ∃ y kd, lo = some y ∧ opF E y = some (.ex (.int kd a0))) (hhi : (hi = none ∧ b0 = m) ∨ ∃ y kd, hi = some y ∧ opF E y = some (.ex (.int kd b0)))
    (hab : a0 ≤ b0) (hbm : b0 ≤ m)
    (h : Plan P ops Q n I d k (i + 1) (setE o.dst (row sz ((cs.take (b0 * sz)).drop (a0 * sz))) E)) : Plan P ops Q n I d (k + 1) i E :=
  Plan.step ho (Step.run ho hg fun a w hI hs' => by
    have e1 := hs w _ hI (hs' x (by simp [hop, Op.operands]) _ hx)
    simp only [Fa.den, row, rowP] at e1
    obtain ⟨inf, hinf, hz, hs1, hby⟩ := he.hi
    have hpos := he.hs
    obtain ⟨A, m', c, hv, h1, h2, h3, h4, h5⟩ := id e1
    have hm' : m' = m := Nat.eq_of_mul_eq_mul_right hpos (h3.symm.trans hm)
    subst hm'
    rw [hv] at e1
    have hrow := rowH_drop (rowH_take e1 hbm) hab
    have hrun : ∀ (vl vh : Option Value), (vl = none ∧ a0 = 0 ∨ ∃ kd, vl = some (.int kd (a0 : Int))) → (vh = none ∧ b0 = m' ∨ ∃ kd, vh = some (.int kd (b0 : Int))) →
        (Instr.sliceAt t (.slice A m' c) vl vh none).run P w = .ok (.slice (if c = a0 then A else A.map (·.add (a0 * sz))) (b0 - a0) (c - a0)) w := by
      intro vl vh hl hh
      have hB : (Instr.sliceBounds true m' c vl vh none).run P w = .ok (a0, b0, c) w := by
        unfold Instr.sliceBounds
        rcases hl with ⟨rfl, rfl⟩ | ⟨kd, rfl⟩ <;> rcases hh with ⟨rfl, rfl⟩ | ⟨kd', rfl⟩
        · simp
        · simp [run_sliceBound_ok (P := P) (w := w) (Int.natCast_nonneg b0) (show (b0 : Int) ≤ c by omega)]
        · simp [run_sliceBound_ok (P := P) (w := w) (Int.natCast_nonneg a0) (show (a0 : Int) ≤ b0 by omega)]
        · simp [run_sliceBound_ok (P := P) (w := w) (Int.natCast_nonneg b0) (show (b0 : Int) ≤ c by omega), run_sliceBound_ok (P := P) (w := w) (Int.natCast_nonneg a0) (show (a0 : Int) ≤ b0 by omega)]
      simp [Instr.sliceAt, run_underlying he.ht, Instr.slice, hB, sizeOf, typeInfo, hinf, hs1]
    refine ⟨_, w, ?_, Below.refl _ _, hrow⟩
    have hr := hrun (lo.map a.eval) (hi.map a.eval) (by
      rcases hlo with ⟨rfl, h⟩ | ⟨y, kd, rfl, hy⟩
      · exact .inl ⟨rfl, h⟩
      · have := hs' y (by simp [hop, Op.operands]) _ hy
        simp only [Fa.den] at this
        exact .inr ⟨kd, by simp [this]⟩) (by
      rcases hhi with ⟨rfl, h⟩ | ⟨y, kd, rfl, hy⟩
      · exact .inl ⟨rfl, h⟩
      · have := hs' y (by simp [hop, Op.operands]) _ hy
        simp only [Fa.den] at this
        exact .inr ⟨kd, by simp [this]⟩)
    simp only [execOp, hop, Option.map_none, hv, Sem.run_bind, hr, Result.andThen_ok, Sem.run_pure]) h
def nilB (p : Prop) : Fa := .is ⟨fun _ v => (v = .bool true ∧ p) ∨ v = .bool false, fun _ _ _ _ h => h⟩
theorem Plan.eqlNil {t e yt : TypeId} {x : Operand} {g : Fa} {sz : Nat} {cs : List Value} (ho : ops[i]? = some o) (hop : o.op = .binOp .eql t x (.const (.slice none 0 0)) yt) (hg : wantB ops E o = some true)
    (hx : opF E x = some g) (hs : Sub I g (row sz cs)) (hu : P.underlying t = some (.slice e))
    (h : Plan P ops Q n I d k (i + 1) (setE o.dst (nilB (cs = [])) E)) : Plan P ops Q n I d (k + 1) i E :=
  Plan.step ho (Step.run ho hg fun a w hI hs' => by
    have h1 := hs w _ hI (hs' x (by simp [hop, Op.operands]) _ hx)
    obtain ⟨A, m, c, hv, hmc, hc, hl, hnil, hcell⟩ := h1
    have hr := Lib.run_eql_slice_nil (P := P) w t e A m c 0 0 hu
    have hgd : (eqGuard .eql t x (.const (.slice none 0 0)) (.slice A m c) (.slice none 0 0)).run P w = .ok () w := by simp [eqGuard]
    refine ⟨.bool A.isNone, w, ?_, Below.refl _ _, ?_⟩
    · have hev : a.eval (.const (.slice none 0 0)) = .slice none 0 0 := rfl
      simp only [execOp, hop, hv, hev, Sem.run_bind, hgd, Result.andThen_ok, hr, Sem.run_pure]
    · show (_ ∧ _) ∨ _
      cases A with
      | some ad => exact .inr rfl
      | none =>
        refine .inl ⟨rfl, ?_⟩
        have h0 := hnil rfl
        have hm0 : m = 0 := by omega
        rw [hm0, Nat.zero_mul] at hl
        exact List.eq_nil_of_length_eq_zero hl) h
theorem J.condNil {t : Nat} {p : Prop} {x y : Code} (hc : look E t = some (nilB p)) (ht : p → J P n I x Q E) (hf : J P n I y Q E) : J P n I (.cond (.tmp t) x y) Q E :=
  fun a w h1 h2 h3 => by
    have h4 : ((a.slot t = .bool true ∧ p) ∨ a.slot t = .bool false) := h3 t _ hc
    rcases h4 with ⟨h5, hp⟩ | h5
    · exact wp_cond_true (by simpa [Act.eval, Act.slot] using h5) (ht hp a w h1 h2 h3)
    · exact wp_cond_false (by simpa [Act.eval, Act.slot] using h5) (hf a w h1 h2 h3)
theorem Sub.nilOwn {B e sz : Nat} (hB : ∀ w, I w → B ≤ w.heap.size) : Sub I (.ex (.slice none 0 0)) (Free.own B e sz []) := fun w v hI h => by
  simp only [Fa.den] at h
  subst h
  exact ⟨hB w hI, 0, World.ownsRow_nil w B e sz⟩
theorem Sub.nilRow {sz : Nat} : Sub I (.ex (.slice none 0 0)) (row sz []) := fun w v _ h => by
  simp only [Fa.den] at h
  subst h
  exact ⟨none, 0, 0, rfl, Nat.le_refl _, by omega, by simp, fun _ => rfl, fun j u hu => by simp at hu⟩
theorem Sub.ownLower {B B' e sz : Nat} {cs : List Value} (hB : B' ≤ B) : Sub I (Free.own B e sz cs) (Free.own B' e sz cs) := fun w v _ h => by
  simp only [Free.own, Fa.den] at h ⊢; exact own_lower h hB
theorem Sub.rowEq {sz : Nat} {g : Fa} {cs cs' : List Value} (he : cs = cs') (h : Sub I g (row sz cs)) : Sub I g (row sz cs') := he ▸ h
theorem Sub.trans {f g h : Fa} (h1 : Sub I f g) (h2 : Sub I g h) : Sub I f h := fun w v hI hd => h2 w v hI (h1 w v hI hd)
theorem derive_sat {t : Nat} {f : Fa} {a : Act} {w : World} (h3 : Sat E a w) (hd : f.den w (a.slot t)) : Sat ((t, f) :: E) a w := by
  intro s g hg
  simp only [look] at hg
  by_cases hs : t = s
  · subst hs; simp only [if_true, Option.some.injEq] at hg; subst hg; exact hd
  · rw [if_neg hs] at hg; exact h3 s g hg
theorem Plan.indexEx {t e : TypeId} {z : Value} {bytes sz m cap q : Nat} {x y : Operand} {ad : Addr} {kd : IntKind} {j : Int} (ho : ops[i]? = some o) (hop : o.op = .indexAddr t x y)
    (hg : wantB ops E o = some true) (hx : opF E x = some (.ex (.slice (some ad) m cap))) (hy : opF E y = some (.ex (.int kd j))) (he : Elt P t e z sz bytes) (h0 : 0 ≤ j) (h1 : j < m) (hq : j.toNat * sz = q)
    (h : Plan P ops Q n I d k (i + 1) (setE o.dst (.ex (.pointer (some (ad.add q)))) E)) : Plan P ops Q n I d (k + 1) i E :=
  Plan.step ho (Step.run ho hg fun a w hI hs' => by
    have e1 := hs' x (by simp [hop, Op.operands]) _ hx
    have e2 := hs' y (by simp [hop, Op.operands]) _ hy
    simp only [Fa.den] at e1 e2
    obtain ⟨inf, hi, hz, hs1, hby⟩ := he.hi
    refine ⟨.pointer (some (ad.add q)), w, ?_, Below.refl _ _, by simp [Fa.den]⟩
    simp [execOp, hop, e1, e2, Instr.indexAt, asIntOf, run_underlying he.ht, h0, h1, sizeOf, typeInfo, hi, hs1, hq]) h
theorem Plan.min2 {ts : Array TypeId} {x y : Operand} {kd : IntKind} {p q : Int} (ho : ops[i]? = some o) (hop : o.op = .call { callee := .builtin .min, args := #[x, y], argTypes := ts }) (hg : wantB ops E o = some true)
    (hx : opF E x = some (.ex (.int kd p))) (hy : opF E y = some (.ex (.int kd q)))
    (h : Plan P ops Q n I d k (i + 1) (setE o.dst (.ex (.int kd (if q < p then q else p))) E)) : Plan P ops Q n I d (k + 1) i E :=
  Plan.step ho (Step.run ho hg fun a w _ hs => by
    have h1 := hs x (by simp [hop, Op.operands, Call.operands]) _ hx
    have h2 := hs y (by simp [hop, Op.operands, Call.operands]) _ hy
    simp only [Fa.den] at h1 h2
    refine ⟨_, w, ?_, Below.refl _ _, by simp only [Fa.den]; rfl⟩
    simp only [execOp, hop, resolve, invoke, builtin, List.map_toArray, List.map_cons, List.map_nil, h1, h2, Sem.run_bind, Sem.run_pure, Result.andThen_ok, run_min_int2]) h
theorem Plan.max2 {ts : Array TypeId} {x y : Operand} {kd : IntKind} {p q : Int} (ho : ops[i]? = some o) (hop : o.op = .call { callee := .builtin .max, args := #[x, y], argTypes := ts }) (hg : wantB ops E o = some true)
    (hx : opF E x = some (.ex (.int kd p))) (hy : opF E y = some (.ex (.int kd q)))
    (h : Plan P ops Q n I d k (i + 1) (setE o.dst (.ex (.int kd (if q > p then q else p))) E)) : Plan P ops Q n I d (k + 1) i E :=
  Plan.step ho (Step.run ho hg fun a w _ hs => by
    have h1 := hs x (by simp [hop, Op.operands, Call.operands]) _ hx
    have h2 := hs y (by simp [hop, Op.operands, Call.operands]) _ hy
    simp only [Fa.den] at h1 h2
    refine ⟨_, w, ?_, Below.refl _ _, by simp only [Fa.den]; rfl⟩
    simp only [execOp, hop, resolve, invoke, builtin, List.map_toArray, List.map_cons, List.map_nil, h1, h2, Sem.run_bind, Sem.run_pure, Result.andThen_ok, run_max_int2]) h
end
end Go.Free
end

section
namespace Go.Proofs.YtmljgobenlpnfaaGreat
open Go.Free Go.RowKit Go.Proofs
theorem mixed : Tryz.prog.follows .mixedOrders = true := by kernel_rfl
theorem hIb (w0 : World) : ∀ w w', Below w0.heap.size w0 w → Below w.heap.size w w' → Below w0.heap.size w0 w' := fun _ _ h k => h.trans (k.mono h.size)
theorem hBb (w0 : World) : ∀ w, Below w0.heap.size w0 w → w0.heap.size ≤ w.heap.size := fun _ h => h.size
theorem hGb (w0 : World) : ∀ w w' r, Below w0.heap.size w0 w → w.grownBy w' r → (∀ b, r = some b → w0.heap.size ≤ b) → Below w0.heap.size w0 w' := fun _ _ _ h hg hr => h.grown hg h.size hr
theorem eltB : Elt Tryz.prog 56 5 (.int .u8 0) 1 1 := Elt.mk' Tryz.underlying56 (by kernel_rfl) rfl (by decide) (by decide)
abbrev ownB (B : Nat) (l : List UInt8) : Fa := own B 5 1 (bs l)
theorem i64r {x : Int} (h : -9223372036854775808 ≤ x ∧ x ≤ 9223372036854775807) : IntKind.i64.wrap x = x := IntWalk.i64_in x h
theorem w8 (c : UInt8) : IntKind.u8.wrap (c.toNat : Int) = c.toNat := by have := c.toNat_lt; rw [IntKind.wrap_u8]; omega
end Go.Proofs.YtmljgobenlpnfaaGreat
end

section
namespace Go.Free
open Go.RowKit
section
variable {P : Program} {n : Nat} {I : World → Prop} {Q : Exit → Act → World → Prop} {E : Env} {ops : Array Oper} {k i : Nat} {d : Bool}
theorem J.condT {c : Operand} {x y : Code} (hc : opF E c = some (.ex (.bool true))) (h : J P n I x Q E) : J P n I (.cond c x y) Q E := J.cond hc (fun _ => h) (fun e => by cases e)
theorem J.condF {c : Operand} {x y : Code} (hc : opF E c = some (.ex (.bool false))) (h : J P n I y Q E) : J P n I (.cond c x y) Q E := J.cond hc (fun e => by cases e) (fun _ => h)
theorem J.condD {c : Operand} {x y : Code} {p : Prop} [Decidable p] (hc : opF E c = some (.ex (.bool (decide p)))) (ht : p → J P n I x Q E) (hf : ¬ p → J P n I y Q E) : J P n I (.cond c x y) Q E :=
  J.cond hc (fun h => ht (of_decide_eq_true h)) (fun h => hf (of_decide_eq_false h))
theorem J.condE {α : Type} [BEq α] [LawfulBEq α] {c : Operand} {x y : Code} {p q : α} (hc : opF E c = some (.ex (.bool (p == q)))) (ht : p = q → J P n I x Q E) (hf : p ≠ q → J P n I y Q E) : J P n I (.cond c x y) Q E :=
  J.cond hc (fun h => ht (eq_of_beq h)) (fun h => hf (by intro e; rw [e, beq_self_eq_true] at h; cases h))
theorem J.condN {α : Type} [BEq α] [LawfulBEq α] {c : Operand} {x y : Code} {p q : α} (hc : opF E c = some (.ex (.bool (p != q)))) (ht : p ≠ q → J P n I x Q E) (hf : p = q → J P n I y Q E) : J P n I (.cond c x y) Q E :=
  J.cond hc (fun h => ht (by intro e; rw [e, bne_self_eq_false] at h; cases h)) (fun h => hf (by simpa using h))
theorem Plan.splitD {t : Nat} {p : Prop} [Decidable p] (ht : p → Plan P ops Q n I d k i ((t, .ex (.bool true)) :: E)) (hf : ¬ p → Plan P ops Q n I d k i ((t, .ex (.bool false)) :: E)) : Plan P ops Q n I d k i ((t, .ex (.bool (decide p))) :: E) := by
  by_cases h : p
  · have e : decide p = true := by simpa using h
    rw [e]; exact ht h
  · have e : decide p = false := by simpa using h
    rw [e]; exact hf h
theorem Plan.splitE {α : Type} [BEq α] [LawfulBEq α] [DecidableEq α] {t : Nat} {p q : α} (ht : p = q → Plan P ops Q n I d k i ((t, .ex (.bool true)) :: E)) (hf : p ≠ q → Plan P ops Q n I d k i ((t, .ex (.bool false)) :: E)) : Plan P ops Q n I d k i ((t, .ex (.bool (p == q))) :: E) := by
  by_cases h : p = q
  · have e : (p == q) = true := by simpa using h
    rw [e]; exact ht h
  · have e : (p == q) = false := by simpa using h
    rw [e]; exact hf h
theorem Plan.splitN {α : Type} [BEq α] [LawfulBEq α] [DecidableEq α] {t : Nat} {p q : α} (ht : p ≠ q → Plan P ops Q n I d k i ((t, .ex (.bool true)) :: E)) (hf : p = q → Plan P ops Q n I d k i ((t, .ex (.bool false)) :: E)) : Plan P ops Q n I d k i ((t, .ex (.bool (p != q))) :: E) := by
  by_cases h : p = q
  · have e : (p != q) = false := by simpa using h
    rw [e]; exact hf h
  · have e : (p != q) = true := by simpa using h
    rw [e]; exact ht h
theorem Plan.lenB {t e : TypeId} {x : Operand} {g : Fa} {l : List UInt8} {o : Oper} (ho : ops[i]? = some o) (hop : o.op = .call { callee := .builtin .len, args := #[x], argTypes := #[t] }) (hg : wantB ops E o = some true)
    (hx : opF E x = some g) (hs : Sub I g (bytesF l)) (hu : P.underlying t = some (.slice e))
    (h : Plan P ops Q n I d k (i + 1) (setE o.dst (.ex (.int .i64 l.length)) E)) : Plan P ops Q n I d (k + 1) i E :=
  Plan.lenRow (m := l.length) ho hop hg hx hs hu (by simp [bs]) (by decide) h
theorem Plan.sliceB {t e : TypeId} {x : Operand} {lo hi : Option Operand} {g : Fa} {l : List UInt8} {a0 b0 : Nat} {o : Oper} (ho : ops[i]? = some o) (hop : o.op = .slice t x lo hi none)
    (hg : wantB ops E o = some true) (hx : opF E x = some g) (hs : Sub I g (bytesF l)) (he : Elt P t e (.int .u8 0) 1 1)
    (hlo : (lo = none ∧ a0 = 0) ∨ ∃ y kd, lo = some y ∧ opF E y = some (.ex (.int kd a0))) (hhi : (hi = none ∧ b0 = l.length) ∨ ∃ y kd, hi = some y ∧ opF E y = some (.ex (.int kd b0)))
    (hab : a0 ≤ b0) (hbm : b0 ≤ l.length)
    (h : Plan P ops Q n I d k (i + 1) (setE o.dst (bytesF ((l.take b0).drop a0)) E)) : Plan P ops Q n I d (k + 1) i E := by
  refine Plan.sliceRow (m := l.length) ho hop hg hx hs he (by simp [bs]) hlo hhi hab hbm ?_
  have e : ((bs l).take (b0 * 1)).drop (a0 * 1) = bs ((l.take b0).drop a0) := by rw [Nat.mul_one, Nat.mul_one]; simp [bs, List.map_drop, List.map_take]
  rw [e]; exact h
theorem Plan.indexB {t e : TypeId} {x y : Operand} {g : Fa} {l : List UInt8} {kd : IntKind} {q : Nat} {o : Oper} (ho : ops[i]? = some o) (hop : o.op = .indexAddr t x y)
    (hg : wantB ops E o = some true) (hx : opF E x = some g) (hs : Sub I g (bytesF l)) (hy : opF E y = some (.ex (.int kd (q : Int)))) (he : Elt P t e (.int .u8 0) 1 1) (h1 : q < l.length)
    (h : Plan P ops Q n I d k (i + 1) (setE o.dst (ptrF [.int .u8 (l.getD q 0).toNat]) E)) : Plan P ops Q n I d (k + 1) i E :=
  Plan.indexAddr (fun b : UInt8 => [.int .u8 b.toNat]) 1 l 0 ho hop hg hx (Sub.rowEq (bs_flat _) hs) hy he (fun _ => rfl) (Int.natCast_nonneg q) (Int.ofNat_lt.2 h1) h
theorem Nrm.next {σ : Type} {Ev : σ → Env} {ok : σ → Prop} {m : σ → Nat} {s : σ} (s' : σ) (hok : ok s') (hm : m s' < m s) (h : Weak I E (Ev s')) : Nrm n I (fun a w => ∃ s', ok s' ∧ m s' < m s ∧ I w ∧ Sh n a ∧ Sat (Ev s') a w) E :=
  fun _ _ h1 h2 h3 => ⟨s', hok, hm, h1, h2, h.sat h1 h3⟩
end
end Go.Free
namespace Go.Proofs.YtmljgobenlpnfaaGreat
open Go.Free Go.RowKit Go.Proofs
theorem u64r {x : Int} (h : 0 ≤ x ∧ x ≤ 18446744073709551615) : IntKind.u64.wrap x = x := by rw [IntKind.wrap_u64]; omega
theorem fdivN (x k : Nat) : (x : Int).fdiv (2 ^ k) = ((x / 2 ^ k : Nat) : Int) := by
  rw [Int.fdiv_eq_ediv_of_nonneg _ (by exact Int.le_of_lt (Int.pow_pos (by decide)))]
  simp
theorem quoN {x y : Nat} (h : x ≤ 9223372036854775807) : IntKind.i64.wrap ((x : Int).tdiv (OfNat.ofNat y : Int)) = ((x / (OfNat.ofNat y : Nat) : Nat) : Int) := by
  rw [show (x : Int).tdiv (OfNat.ofNat y : Int) = ((x / (OfNat.ofNat y : Nat) : Nat) : Int) from Int.ofNat_tdiv x y]
  have := Nat.div_le_self x (OfNat.ofNat y : Nat)
  generalize x / (OfNat.ofNat y : Nat) = q at this ⊢
  exact i64r (by omega)
theorem remN (x y : Nat) : (x : Int).tmod (OfNat.ofNat y : Int) = ((x % (OfNat.ofNat y : Nat) : Nat) : Int) := Int.ofNat_tmod x y
theorem or256 (x y : Nat) (hx : x < 65536) (hy : y < 256) : IntKind.i64.wrap ((BitVec.ofInt IntKind.i64.bits ((x * 256 : Nat) : Int) ||| BitVec.ofInt IntKind.i64.bits (y : Int)).toNat : Int) = ((x * 256 + y : Nat) : Int) := by
  have e : (BitVec.ofInt IntKind.i64.bits ((x * 256 : Nat) : Int) ||| BitVec.ofInt IntKind.i64.bits (y : Int)).toNat = x * 256 + y := by
    show (BitVec.ofInt 64 ((x * 256 : Nat) : Int) ||| BitVec.ofInt 64 (y : Int)).toNat = _
    rw [BitVec.toNat_or, BitVec.ofInt_natCast, BitVec.ofInt_natCast, BitVec.toNat_ofNat, BitVec.toNat_ofNat, Nat.mod_eq_of_lt (by omega), Nat.mod_eq_of_lt (by omega)]
    have := Nat.shiftLeft_add_eq_or_of_lt (a := x) (b := y) (i := 8) (by omega)
    rw [Nat.shiftLeft_eq] at this
    exact this.symm
  rw [e, i64r (by omega)]
theorem i64u8 (c : UInt8) : IntKind.i64.wrap (c.toNat : Int) = c.toNat := i64r (by have := c.toNat_lt; omega)
theorem bsSet (l : List UInt8) (j : Nat) (c : UInt8) : (bs l).set j (.int .u8 c.toNat) = bs (l.set j c) := by simp [bs, List.map_set]
theorem u8r {x : Int} (h : 0 ≤ x ∧ x ≤ 255) : IntKind.u8.wrap x = x := by rw [IntKind.wrap_u8]; omega
end Go.Proofs.YtmljgobenlpnfaaGreat
end

section
namespace Go.Free
open Go.RowKit
/-! ### Rows of which each element meets a fact -/
def nestR (fs : List Fa) : Fa := .is ⟨fun w v => ∃ vs, rowH 1 vs w v ∧ Fa.dens fs w vs, fun _ _ _ hb ⟨vs, h1, h2⟩ => ⟨vs, rowH_mono hb h1, Fa.monos _ _ _ _ hb h2⟩⟩
def nest (B e : Nat) (fs : List Fa) : Fa := .is ⟨fun w v => ∃ vs, ownH B e 1 vs w v ∧ Fa.dens fs w vs, fun _ _ _ hb ⟨vs, h1, h2⟩ => ⟨vs, ownH_mono hb h1, Fa.monos _ _ _ _ hb h2⟩⟩
def atF (u : Value) (f : Fa) : Fa := .is ⟨fun w _ => f.den w u, fun _ _ _ hb h => Fa.mono f _ _ u hb h⟩
def ptrTo (f : Fa) : Fa := .is ⟨fun w v => ∃ ad u, v = .pointer (some ad) ∧ w.cell? ad = some u ∧ f.den w u,
  fun w _ _ hb ⟨ad, u, h1, h2, h3⟩ => ⟨ad, u, h1, (hb.cell (World.block_lt_of_cell? w _ h2)).trans h2, Fa.mono f _ _ u hb h3⟩⟩
theorem dens_length {w : World} : ∀ {fs : List Fa} {vs : List Value}, Fa.dens fs w vs → vs.length = fs.length
  | [], vs, h => by simp only [Fa.dens] at h; subst h; rfl
  | f :: fs, vs, h => by
    simp only [Fa.dens] at h
    obtain ⟨y, ys, rfl, _, h2⟩ := h
    simp [dens_length h2]
theorem dens_append {w : World} : ∀ {fs gs : List Fa} {vs us : List Value}, Fa.dens fs w vs → Fa.dens gs w us → Fa.dens (fs ++ gs) w (vs ++ us)
  | [], gs, vs, us, h, k => by simp only [Fa.dens] at h; subst h; exact k
  | f :: fs, gs, vs, us, h, k => by
    simp only [Fa.dens] at h
    obtain ⟨y, ys, rfl, h1, h2⟩ := h
    simp only [List.cons_append, Fa.dens]
    exact ⟨y, ys ++ us, rfl, h1, dens_append h2 k⟩
theorem dens_imp {w w' : World} : ∀ {fs : List Fa} {vs : List Value}, (∀ f ∈ fs, ∀ v, f.den w v → f.den w' v) → Fa.dens fs w vs → Fa.dens fs w' vs
  | [], _, _, h => by simpa only [Fa.dens] using h
  | f :: fs, vs, hi, h => by
    simp only [Fa.dens] at h ⊢
    obtain ⟨y, ys, rfl, h1, h2⟩ := h
    exact ⟨y, ys, rfl, hi f List.mem_cons_self y h1, dens_imp (fun g hg => hi g (List.mem_cons_of_mem _ hg)) h2⟩
theorem dens_map {α : Type} {w : World} {F G : α → Fa} (hi : ∀ l v, (F l).den w v → (G l).den w v) : ∀ {ls : List α} {vs : List Value}, Fa.dens (ls.map F) w vs → Fa.dens (ls.map G) w vs
  | [], _, h => by simpa only [List.map_nil, Fa.dens] using h
  | l :: ls, vs, h => by
    simp only [List.map_cons, Fa.dens] at h ⊢
    obtain ⟨y, ys, rfl, h1, h2⟩ := h
    exact ⟨y, ys, rfl, hi l y h1, dens_map hi h2⟩
section
variable {P : Program} {ops : Array Oper} {Q : Exit → Act → World → Prop} {n : Nat} {I : World → Prop} {k i : Nat} {E : Env} {o : Oper} {d : Bool}
theorem Sub.nestNil {B e : Nat} (hB : ∀ w, I w → B ≤ w.heap.size) : Sub I (.ex (.slice none 0 0)) (nest B e []) := fun w v hI h => ⟨[], Sub.nilOwn hB w v hI h, by simp [Fa.dens]⟩
theorem Sub.nestLower {α : Type} {B B' e : Nat} {F G : α → Fa} {ls : List α} (hB : B' ≤ B) (h : ∀ l, Sub I (F l) (G l)) : Sub I (nest B e (ls.map F)) (nest B' e (ls.map G)) := fun w _ hI ⟨vs, h1, h2⟩ => ⟨vs, own_lower h1 hB, dens_map (fun l v hv => h l w v hI hv) h2⟩
theorem Plan.lenNest {t e : TypeId} {x : Operand} {g : Fa} {fs : List Fa} (ho : ops[i]? = some o) (hop : o.op = .call { callee := .builtin .len, args := #[x], argTypes := #[t] }) (hg : wantB ops E o = some true)
    (hx : opF E x = some g) (hs : Sub I g (nestR fs)) (hu : P.underlying t = some (.slice e))
    (h : Plan P ops Q n I d k (i + 1) (setE o.dst (.ex (.int .i64 fs.length)) E)) : Plan P ops Q n I d (k + 1) i E :=
  Plan.step ho (Step.run ho hg fun a w hI hs' => by
    obtain ⟨vs, ⟨A, m, c, hv, _, _, hl, _, _⟩, hd⟩ := hs w _ hI (hs' x (by simp [hop, Op.operands, Call.operands]) _ hx)
    rw [dens_length hd, Nat.mul_one] at hl
    subst hl
    refine ⟨.int .i64 fs.length, w, ?_, Below.refl _ _, by simp [Fa.den]⟩
    have hr : (Builtin.len_ #[t] o.type #[.slice A fs.length c]).run P w = .ok (goInt fs.length) w := by simp [Builtin.len_, run_underlying hu]
    simp only [execOp, hop, resolve, invoke, builtin, List.map_toArray, List.map_cons, List.map_nil, hv, Sem.run_bind, Sem.run_pure, Result.andThen_ok, hr]
    rfl) h
theorem Plan.indexNest {t e : TypeId} {z : Value} {bytes : Nat} {x y : Operand} {g f : Fa} {kd : IntKind} {q : Nat} {fs : List Fa} (ho : ops[i]? = some o) (hop : o.op = .indexAddr t x y)
    (hg : wantB ops E o = some true) (hx : opF E x = some g) (hs : Sub I g (nestR fs)) (hy : opF E y = some (.ex (.int kd (q : Int)))) (he : Elt P t e z 1 bytes) (hq : fs[q]? = some f)
    (h : Plan P ops Q n I d k (i + 1) (setE o.dst (ptrTo f) E)) : Plan P ops Q n I d (k + 1) i E :=
  Plan.step ho (Step.run ho hg fun a w hI hs' => by
    obtain ⟨vs, ⟨A, m, c, hv, _, _, hl, _, hcell⟩, hd⟩ := hs w _ hI (hs' x (by simp [hop, Op.operands]) _ hx)
    have e2 := hs' y (by simp [hop, Op.operands]) _ hy
    simp only [Fa.den] at e2
    obtain ⟨inf, hi, hz, hs1, hby⟩ := he.hi
    rw [dens_length hd, Nat.mul_one] at hl
    have hlt : q < fs.length := (List.getElem?_eq_some_iff.1 hq).1
    obtain ⟨u, hu, hden⟩ := dens_get hd hq
    obtain ⟨ad, rfl, hc⟩ := hcell q u hu
    refine ⟨.pointer (some (ad.add q)), w, ?_, Below.refl _ _, ⟨_, u, rfl, hc, hden⟩⟩
    have hj2 : q < m := by omega
    simp [execOp, hop, hv, e2, Instr.indexAt, asIntOf, run_underlying he.ht, sizeOf, typeInfo, hi, hs1, hj2]) h
theorem Plan.loadNest {t : TypeId} {u : TypeDesc} {x : Operand} {g f : Fa} (ho : ops[i]? = some o) (hop : o.op = .load t x) (hg : wantB ops E o = some true)
    (hx : opF E x = some g) (hs : Sub I g (ptrTo f)) (hu : P.underlying t = some u) (hna : aggB u = false)
    (h : Plan P ops Q n I d k (i + 1) (setE o.dst f E)) : Plan P ops Q n I d (k + 1) i E :=
  Plan.step ho (Step.run ho hg fun a w hI hs' => by
    obtain ⟨ad, v, hv, hc, hden⟩ := hs w _ hI (hs' x (by simp [hop, Op.operands]) _ hx)
    refine ⟨v, w, ?_, Below.refl _ _, hden⟩
    have hagg : (isAgg t).run P w = .ok false w := by
      cases u <;> simp [aggB] at hna <;> simp [isAgg, run_underlying hu]
    simp [execOp, hop, hv, Instr.loadAt, Instr.sureAddr, loadVar, hagg, run_load, hc]) h
theorem J.name {c : Code} {t key : Nat} {f : Fa} (hf : look E t = some f) (h : ∀ u, J P n I c Q ((t, .ex u) :: (key, atF u f) :: E)) : J P n I c Q E := fun a w h1 h2 h3 =>
  h (a.slot t) a w h1 h2 (derive_sat (f := .ex (a.slot t)) (derive_sat (t := key) (f := atF (a.slot t) f) h3 (h3 t f hf)) (by simp [Fa.den]))
theorem J.nameOwn {c : Code} {t key B e sz : Nat} {cs : List Value} {f : Fa} (hf : look E t = some f) (hs : Sub I f (Free.own B e sz cs))
    (h : ∀ u, u.oneCell' = true → flat [u] = [u] → (∀ v ∈ [u], v.cells.size = 1) → J P n I c Q ((t, .ex u) :: (key, atF u (Free.own B e sz cs)) :: E)) : J P n I c Q E := fun a w h1 h2 h3 => by
  have hd : (Free.own B e sz cs).den w (a.slot t) := hs w _ h1 (h3 t f hf)
  have hsl : ∃ A m c, a.slot t = .slice A m c := by
    obtain ⟨_, m, hm⟩ := hd
    rcases hm.2 with ⟨h0, _⟩ | ⟨g, cap, cur, h0, _⟩
    · exact ⟨_, _, _, h0⟩
    · exact ⟨_, _, _, h0⟩
  obtain ⟨A, m, c', hv⟩ := hsl
  exact h (a.slot t) (by rw [hv]; rfl) (by rw [hv]; rfl) (by rw [hv]; simp [Value.cells]) a w h1 h2 (derive_sat (f := .ex (a.slot t)) (derive_sat (t := key) (f := atF (a.slot t) (Free.own B e sz cs)) h3 hd) (by simp [Fa.den]))
def Apart (e : Nat) (g : Fa) : Prop := ∀ w w' v u B xs, ownH B e 1 xs w v → w.grownBy w' v.ownBlock → g.den w u → g.den w' u
theorem Apart.own {e B' e' sz' : Nat} {cs : List Value} (h : e' ≠ e) : Apart e (own B' e' sz' cs) := fun w w' v u B xs hv hg hu => by
  obtain ⟨hB, m, hm⟩ := hu
  refine ⟨Nat.le_trans hB hg.size, m, hm.kept hg ?_⟩
  rcases hm.2 with ⟨rfl, _⟩ | ⟨g, cap, cur, rfl, _, hh, _⟩
  · exact .inl rfl
  · right
    obtain ⟨_, m2, hm2⟩ := hv
    rcases hm2.2 with ⟨rfl, _⟩ | ⟨g2, cap2, cur2, rfl, _, hh2, _⟩
    · simp [Value.ownBlock]
    · simp only [Value.ownBlock, ne_eq, Option.some.injEq]
      rintro rfl
      rw [hh] at hh2
      cases hh2
      exact h rfl
theorem Plan.appendNest {x y : Operand} {t e : TypeId} {z : Value} {bytes B key : Nat} {fs : List Fa} {f fx fy : Fa} {u : Value} (ho : ops[i]? = some o) (hop : o.op = .call { callee := .builtin .append, args := #[x, y], argTypes := #[t, t] })
    (hg : wantB ops E o = some true) (hx : opF E x = some fx) (hfs : Sub I fx (nest B e fs)) (hy : opF E y = some fy) (hs : Sub I fy (row 1 [u])) (hu : look E key = some (atF u f)) (h1 : u.oneCell' = true)
    (he : Elt P t e z 1 bytes) (hd : ∀ d, o.dst = some d → d < n)
    (hG : ∀ w w' r, I w → w.grownBy w' r → (∀ b, r = some b → B ≤ b) → I w') (hlim : (fs.length + 1) * bytes ≤ 140737488355328) (hap : ∀ g ∈ fs ++ [f], Apart e g)
    (h : Plan P ops Q n I d k (i + 1) (setE o.dst (nest B e (fs ++ [f])) (sieve E))) (hq : d = false ∨ barB ops i = true := by first | exact .inl rfl | exact .inr (by kernel_rfl)) : Plan P ops Q n I d (k + 1) i E :=
  Plan.eff ho hg hd (fun a w hI hS hs' => by
    obtain ⟨vs, e1, ed⟩ := hfs w _ hI (hs' x (by simp [hop, Op.operands, Call.operands]) _ hx)
    have e2 := hs w _ hI (hs' y (by simp [hop, Op.operands, Call.operands]) _ hy)
    have e3 : f.den w u := hS key _ hu
    have hl := dens_length ed
    obtain ⟨v', w', hr, h2, h3⟩ := run_append_rows (ty := o.type) he e1 e2 (by simpa using h1) (by simp only [List.length_singleton, Nat.mul_one]; rw [hl]; exact hlim)
    refine ⟨v', w', .inl ?_, hG w w' _ hI h3 ?_, ⟨vs ++ [u], h2, dens_append (dens_imp (fun g hg v hv => hap g (List.mem_append_left _ hg) w w' _ v _ _ e1 h3 hv) ed) ⟨u, [], rfl, hap f (by simp) w w' _ u _ _ e1 h3 e3, rfl⟩⟩⟩
    · simp only [execOp, hop, resolve, invoke, builtin, List.map_toArray, List.map_cons, List.map_nil, Sem.run_bind, Sem.run_pure, Result.andThen_ok, hr]
    · intro b hb
      obtain ⟨_, m, hm⟩ := e1
      exact (hm.lt b hb).1) hq h
/-! ### A mark: what is known now stays known, whatever memory that comes later is turned -/
def markE (w1 : World) : Env → Env
  | [] => []
  | (t, f) :: r => (t, keepOld w1 f) :: markE w1 r
theorem look_markE {w1 : World} : ∀ {E : Env} {t : Nat} {f : Fa}, look (markE w1 E) t = some f → ∃ g, look E t = some g ∧ f = keepOld w1 g
  | [], _, _, h => by simp [markE, look] at h
  | (s, g) :: r, t, f, h => by
    simp only [markE, look] at h ⊢
    by_cases hs : s = t
    · rw [if_pos hs] at h ⊢
      exact ⟨g, rfl, (Option.some.inj h).symm⟩
    · rw [if_neg hs] at h ⊢
      exact look_markE h
theorem J.mark {c : Code} (h : ∀ w1, I w1 → J P n (fun w => Below w1.heap.size w1 w) c Q (markE w1 E)) : J P n I c Q E := fun a w h1 h2 h3 =>
  h w h1 a w (Below.refl _ _) h2 fun t f hf => by
    obtain ⟨g, hg, rfl⟩ := look_markE hf
    exact keepOld_den (h3 t g hg)
end
end Go.Free
end

section
namespace Go.Free
open Go.RowKit
section
variable {P : Program} {n : Nat} {I : World → Prop} {Q : Exit → Act → World → Prop} {E : Env} {ops : Array Oper} {k i : Nat} {d : Bool} {o : Oper}
theorem Plan.shrN {xt yt : TypeId} {x y : Operand} {kd ky : IntKind} {p q : Nat} (ho : ops[i]? = some o) (hop : o.op = .binOp .shr xt x y yt) (hg : wantB ops E o = some true)
    (hx : opF E x = some (.ex (.int kd p))) (hy : opF E y = some (.ex (.int ky q))) (hq : q ≤ kd.bits)
    (h : Plan P ops Q n I d k (i + 1) (setE o.dst (.ex (.int kd ((p / 2 ^ q : Nat) : Int))) E)) : Plan P ops Q n I d (k + 1) i E :=
  Plan.shift ho hop hg hx hy (by
    unfold shVal
    rw [if_neg (by omega)]
    simp only [Int.toNat_natCast, Nat.min_eq_left hq]
    rw [Int.fdiv_eq_ediv_of_nonneg _ (by exact Int.le_of_lt (Int.pow_pos (by decide)))]
    simp) h
end
end Go.Free
end

section
namespace Go.Free
open Go.RowKit
structure Chunk where
  holds : World → (Nat → Prop) → Prop
  lt : ∀ w F b, holds w F → F b → b < w.heap.size
  loc : ∀ w w' F, holds w F → (∀ b, F b → w'.heap[b]? = w.heap[b]?) → holds w' F
structure Lies (H : List Chunk) (φ : Nat → Nat → Prop) (w : World) : Prop where
  holds : ∀ (q : Nat) (c : Chunk), H[q]? = some c → c.holds w (φ q)
  apart : ∀ p q b, φ p b → φ q b → p = q
  bound : ∀ q b, φ q b → q < H.length
structure Kept (S : Nat → Prop) (w w' : World) : Prop where
  os : w'.os = w.os
  tape : w'.tape = w.tape
  output : w'.output = w.output
  size : w.heap.size ≤ w'.heap.size
  block : ∀ k, k < w.heap.size → ¬ S k → w'.heap[k]? = w.heap[k]?
theorem Kept.refl (S : Nat → Prop) (w : World) : Kept S w w := ⟨rfl, rfl, rfl, Nat.le_refl _, fun _ _ _ => rfl⟩
theorem Kept.trans {S T U : Nat → Prop} {a b c : World} (h : Kept S a b) (k : Kept T b c) (hS : ∀ i, i < a.heap.size → S i → U i) (hT : ∀ i, i < a.heap.size → T i → U i) : Kept U a c :=
  ⟨k.os.trans h.os, k.tape.trans h.tape, k.output.trans h.output, Nat.le_trans h.size k.size, fun i hi hn => (k.block i (Nat.lt_of_lt_of_le hi h.size) (fun e => hn (hT i hi e))).trans (h.block i hi fun e => hn (hS i hi e))⟩
theorem Kept.ofBelow {S : Nat → Prop} {w w' : World} (h : Below w.heap.size w w') : Kept S w w' := ⟨h.os, h.tape, h.output, h.size, fun k hk _ => h.block k hk⟩
theorem Kept.ofGrown {w w' : World} {r : Option Nat} (h : w.grownBy w' r) : Kept (fun b => r = some b) w w' := ⟨h.os, h.tape, h.output, h.size, fun k hk hn => h.block k hk (fun e => hn e.symm)⟩
theorem Kept.mono {S T : Nat → Prop} {w w' : World} (h : Kept S w w') (hS : ∀ b, b < w.heap.size → S b → T b) : Kept T w w' := ⟨h.os, h.tape, h.output, h.size, fun k hk hn => h.block k hk (fun e => hn (hS k hk e))⟩
theorem Kept.below {w w' : World} {S : Nat → Prop} (h : Kept S w w') (hS : ∀ b, b < w.heap.size → ¬ S b) : Below w.heap.size w w' := ⟨h.os, h.tape, h.output, h.size, fun k hk => h.block k hk (hS k hk)⟩
theorem Chunk.keep (c : Chunk) {S : Nat → Prop} {w w' : World} {F : Nat → Prop} (h : c.holds w F) (hk : Kept S w w') (hS : ∀ b, F b → ¬ S b) : c.holds w' F :=
  c.loc w w' F h fun b hb => hk.block b (c.lt w F b h hb) (hS b hb)
theorem Lies.lt {H : List Chunk} {φ : Nat → Nat → Prop} {w : World} (h : Lies H φ w) {q b : Nat} (hb : φ q b) : b < w.heap.size :=
  (H[q]'(h.bound q b hb)).lt w (φ q) b (h.holds q _ (List.getElem?_eq_getElem (h.bound q b hb))) hb
theorem Lies.keep {H : List Chunk} {φ : Nat → Nat → Prop} {S : Nat → Prop} {w w' : World} (h : Lies H φ w) (hk : Kept S w w') (hS : ∀ q b, φ q b → ¬ S b) : Lies H φ w' :=
  ⟨fun q c hq => c.keep (h.holds q c hq) hk (hS q), h.apart, h.bound⟩
theorem Lies.upd {H : List Chunk} {φ : Nat → Nat → Prop} {w w' : World} {q : Nat} {c' : Chunk} {F : Nat → Prop} (h : Lies H φ w) (hq : q < H.length) (hk : Kept (φ q) w w') (hc : c'.holds w' F)
    (hF : ∀ b, F b → φ q b ∨ w.heap.size ≤ b) : Lies (H.set q c') (fun p b => if p = q then F b else φ p b) w' := by
  refine ⟨fun p (c : Chunk) hp => ?_, fun p p' b hp hp' => ?_, fun p b hp => ?_⟩
  · by_cases he : p = q
    · subst he
      rw [List.getElem?_set_self hq] at hp
      cases hp
      simpa using hc
    · rw [List.getElem?_set_ne (Ne.symm he)] at hp
      simp only [if_neg he]
      exact c.keep (h.holds p c hp) hk fun b h1 h2 => he (h.apart p q b h1 h2)
  · by_cases he : p = q
    · by_cases he' : p' = q
      · rw [he, he']
      · simp only [if_pos he] at hp
        simp only [if_neg he'] at hp'
        rcases hF b hp with h1 | h1
        · exact absurd (h.apart _ _ b hp' h1) he'
        · exact absurd (h.lt hp') (by omega)
    · by_cases he' : p' = q
      · simp only [if_neg he] at hp
        simp only [if_pos he'] at hp'
        rcases hF b hp' with h1 | h1
        · exact absurd (h.apart _ _ b hp h1) he
        · exact absurd (h.lt hp) (by omega)
      · simp only [if_neg he] at hp
        simp only [if_neg he'] at hp'
        exact h.apart p p' b hp hp'
  · rw [List.length_set]
    by_cases he : p = q
    · rw [he]; exact hq
    · simp only [if_neg he] at hp
      exact h.bound p b hp
theorem Lies.add {H : List Chunk} {φ : Nat → Nat → Prop} {w w' : World} {c' : Chunk} {F : Nat → Prop} (h : Lies H φ w) (hk : Below w.heap.size w w') (hc : c'.holds w' F) (hF : ∀ b, F b → w.heap.size ≤ b) :
    Lies (H ++ [c']) (fun p b => if p = H.length then F b else φ p b) w' := by
  refine ⟨fun p (c : Chunk) hp => ?_, fun p p' b hp hp' => ?_, fun p b hp => ?_⟩
  · by_cases he : p = H.length
    · subst he
      simp only [List.getElem?_concat_length, Option.some.injEq] at hp
      subst hp
      simpa using hc
    · have hl : p < (H ++ [c']).length := (List.getElem?_eq_some_iff.1 hp).1
      have hl' : p < H.length := by simp at hl; omega
      rw [List.getElem?_append_left hl'] at hp
      simp only [if_neg he]
      exact c.keep (S := fun _ => False) (h.holds p c hp) (.ofBelow hk) fun _ _ e => e
  · by_cases he : p = H.length
    · by_cases he' : p' = H.length
      · rw [he, he']
      · simp only [if_pos he] at hp
        simp only [if_neg he'] at hp'
        have h1 := h.lt hp'
        have h2 := hF b hp
        omega
    · by_cases he' : p' = H.length
      · simp only [if_neg he] at hp
        simp only [if_pos he'] at hp'
        have h1 := h.lt hp
        have h2 := hF b hp'
        omega
      · simp only [if_neg he] at hp
        simp only [if_neg he'] at hp'
        exact h.apart p p' b hp hp'
  · rw [List.length_append]
    by_cases he : p = H.length
    · simp [he]
    · simp only [if_neg he] at hp
      have := h.bound p b hp
      simp; omega
def heap (A : Nat → Prop) (H : List Chunk) : Fa := .is ⟨fun w _ => ∃ φ, Lies H φ w ∧ ∀ q b, φ q b → A b,
  fun _ _ _ hb ⟨φ, h, ha⟩ => ⟨φ, h.keep (S := fun _ => False) (.ofBelow hb) (fun _ _ _ e => e), ha⟩⟩
structure Own (I : World → Prop) (A : Nat → Prop) : Prop where
  fresh : ∀ w, I w → ∀ b, w.heap.size ≤ b → A b
  turn : ∀ w w', I w → Kept A w w' → I w'
theorem Own.below (w0 : World) : Own (fun w => Below w0.heap.size w0 w) (fun b => w0.heap.size ≤ b) :=
  ⟨fun _ h b hb => Nat.le_trans h.size hb, fun w w' h hk => h.trans ⟨hk.os, hk.tape, hk.output, hk.size, fun k hkk => hk.block k (Nat.lt_of_lt_of_le hkk h.size) (by omega)⟩⟩
theorem Own.kept (S : Nat → Prop) (w0 : World) : Own (fun w => Kept S w0 w) (fun b => S b ∨ w0.heap.size ≤ b) :=
  ⟨fun _ h b hb => .inr (Nat.le_trans h.size hb), fun w w' h hk => h.trans hk (fun _ _ h => h) (fun i hi h => h.resolve_right (by omega))⟩
theorem kept_below (S : Nat → Prop) (w0 : World) : ∀ w w', Kept S w0 w → Below w.heap.size w w' → Kept S w0 w' := fun w w' h hb => h.trans (.ofBelow (S := fun _ => False) hb) (fun _ _ h => h) (fun _ _ h => h.elim)
/-! ### Chunks -/
def emp : Chunk := ⟨fun _ F => ∀ b, ¬ F b, fun _ _ b h hb => (h b hb).elim, fun _ _ _ h _ => h⟩
def obj (β : Nat) (cs : List Value) : Chunk := ⟨fun w F => (∃ e, w.heap[β]? = some (.cells cs.toArray e (0, 0))) ∧ ∀ b, F b ↔ b = β,
  fun _ _ b ⟨⟨_, h⟩, hF⟩ hb => by rw [(hF b).1 hb]; exact (Array.getElem?_eq_some_iff.1 h).1,
  fun _ _ _ ⟨⟨e, h⟩, hF⟩ hk => ⟨⟨e, (hk β ((hF β).2 rfl)).trans h⟩, hF⟩⟩
def rowC (e sz : Nat) (A : Option Addr) (n cap : Nat) (xs : List Value) : Chunk := ⟨fun w F => w.ownsRow 0 e sz (.slice A n cap) n xs ∧ ∀ b, F b ↔ (Value.slice A n cap).ownBlock = some b,
  fun _ _ b ⟨h, hF⟩ hb => (h.lt b ((hF b).1 hb)).2,
  fun w w' F ⟨h, hF⟩ hk => ⟨by
    refine ⟨h.1, ?_⟩
    rcases h.2 with h0 | ⟨g, cp, cur, hv, hb, hh, r⟩
    · exact .inl h0
    · exact .inr ⟨g, cp, cur, hv, hb, (hk g ((hF g).2 (by rw [hv]; rfl))).trans hh, r⟩, hF⟩⟩
def exC {X : Type} (c : X → Chunk) : Chunk := ⟨fun w F => ∃ x, (c x).holds w F, fun w F b ⟨x, h⟩ hb => (c x).lt w F b h hb, fun w w' F ⟨x, h⟩ hk => ⟨x, (c x).loc w w' F h hk⟩⟩
def sepC (c d : Chunk) : Chunk := ⟨fun w F => ∃ G K, (∀ b, F b ↔ G b ∨ K b) ∧ (∀ b, G b → K b → False) ∧ c.holds w G ∧ d.holds w K,
  fun w F b ⟨G, K, h1, _, h3, h4⟩ hb => ((h1 b).1 hb).elim (c.lt w G b h3) (d.lt w K b h4),
  fun w w' F ⟨G, K, h1, h2, h3, h4⟩ hk => ⟨G, K, h1, h2, c.loc w w' G h3 (fun b hb => hk b ((h1 b).2 (.inl hb))), d.loc w w' K h4 (fun b hb => hk b ((h1 b).2 (.inr hb)))⟩⟩
def purC (p : Prop) (c : Chunk) : Chunk := ⟨fun w F => p ∧ c.holds w F, fun w F b h hb => c.lt w F b h.2 hb, fun w w' F h hk => ⟨h.1, c.loc w w' F h.2 hk⟩⟩
abbrev ptr (β : Nat) : Value := .pointer (some ⟨β, 0, none⟩)
theorem add_at (β o j : Nat) : (⟨β, o, none⟩ : Addr).add j = ⟨β, o + j, none⟩ := by unfold Addr.add; split <;> simp_all
def Chunk.reads (c : Chunk) (β off : Nat) (us : List Value) : Prop := ∀ w F, c.holds w F → ∀ j u, us[j]? = some u → w.cell? ⟨β, off + j, none⟩ = some u
theorem obj_reads {β off : Nat} {cs us : List Value} (h : (cs.drop off).take us.length = us) : (obj β cs).reads β off us := fun w F ⟨⟨e, hh⟩, _⟩ j u hu => by
  simp only [World.cell?, hh, Option.isSome_none, Bool.false_eq_true, if_false, List.getElem?_toArray]
  have hj : j < us.length := (List.getElem?_eq_some_iff.1 hu).1
  rw [← h, List.getElem?_take, if_pos hj, List.getElem?_drop] at hu
  exact hu
theorem obj_reads1 {β off : Nat} {cs : List Value} {u : Value} (h : cs[off]? = some u) : (obj β cs).reads β off [u] := obj_reads (by
  obtain ⟨hl, rfl⟩ := List.getElem?_eq_some_iff.1 h
  rw [List.length_singleton, List.drop_eq_getElem_cons hl]; rfl)
theorem row_reads {e sz β n cap off : Nat} {xs us : List Value} (h : (xs.drop off).take us.length = us) : (rowC e sz (some ⟨β, 0, none⟩) n cap xs).reads β off us := fun w F ⟨hh, _⟩ j u hu => by
  have hj : j < us.length := (List.getElem?_eq_some_iff.1 hu).1
  rw [← h, List.getElem?_take, if_pos hj, List.getElem?_drop] at hu
  have := hh.cells (g := β) rfl (off + j) u hu
  rw [add_at] at this
  simpa using this
theorem row_reads1 {e sz β n cap off : Nat} {xs : List Value} {u : Value} (h : xs[off]? = some u) : (rowC e sz (some ⟨β, 0, none⟩) n cap xs).reads β off [u] := row_reads (by
  obtain ⟨hl, rfl⟩ := List.getElem?_eq_some_iff.1 h
  rw [List.length_singleton, List.drop_eq_getElem_cons hl]; rfl)
def Chunk.pat (c : Chunk) (β off : Nat) (vs : List Value) (c' : Chunk) : Prop := ∀ w F, c.holds w F → F β ∧ ∃ cur e, w.heap[β]? = some (.cells cur e (0, 0)) ∧ off + vs.length ≤ cur.size ∧
  ∀ w', w'.heap[β]? = some (.cells (cur.toList.take off ++ vs ++ cur.toList.drop (off + vs.length)).toArray e (0, 0)) → c'.holds w' F
theorem obj_pat {β off : Nat} {cs vs : List Value} (h : off + vs.length ≤ cs.length) : (obj β cs).pat β off vs (obj β (cs.take off ++ vs ++ cs.drop (off + vs.length))) := fun w F ⟨⟨e, hh⟩, hF⟩ =>
  ⟨(hF β).2 rfl, cs.toArray, e, hh, by simpa using h, fun w' hw => ⟨⟨e, by simpa using hw⟩, hF⟩⟩
theorem obj_pat1 {β off : Nat} {cs : List Value} {v : Value} (h : off < cs.length) : (obj β cs).pat β off [v] (obj β (cs.set off v)) := by
  have e : cs.set off v = cs.take off ++ [v] ++ cs.drop (off + [v].length) := by
    rw [List.set_eq_take_append_cons_drop, if_pos h]; simp
  rw [e]
  exact obj_pat (by simp only [List.length_singleton]; omega)
theorem row_pat {e sz β n cap off : Nat} {xs vs : List Value} (h : off + vs.length ≤ xs.length) : (rowC e sz (some ⟨β, 0, none⟩) n cap xs).pat β off vs (rowC e sz (some ⟨β, 0, none⟩) n cap (xs.take off ++ vs ++ xs.drop (off + vs.length))) := fun w F ⟨hh, hF⟩ => by
  refine ⟨(hF β).2 rfl, ?_⟩
  rcases hh.2 with ⟨h0, _⟩ | ⟨g, cp, cur, hv, hb, hg, h1, h2, h3, h4⟩
  · simp at h0
  · cases hv
    have hlen := hh.1
    have hle : n * sz ≤ cur.size := by rw [h3]; exact Nat.mul_le_mul_right _ h1
    refine ⟨cur, e, hg, by omega, fun w' hw => ⟨⟨by simp; omega, .inr ⟨β, cap, _, rfl, Nat.zero_le _, hw, h1, h2, by simp; omega, ?_⟩⟩, hF⟩⟩
    rw [← h4] at h ⊢
    have hk : off + vs.length ≤ n * sz := by rw [List.length_take] at h; omega
    rw [List.take_append, List.take_append, List.take_take, List.drop_take]
    have l1 : (cur.toList.take off).length = off := by rw [List.length_take, Array.length_toList]; omega
    rw [List.length_append, l1, List.take_take, Nat.min_eq_right (by omega), Nat.min_eq_left (show off ≤ n * sz by omega), List.take_of_length_le (show vs.length ≤ n * sz - off by omega)]
theorem row_pat1 {e sz β n cap off : Nat} {xs : List Value} {v : Value} (h : off < xs.length) : (rowC e sz (some ⟨β, 0, none⟩) n cap xs).pat β off [v] (rowC e sz (some ⟨β, 0, none⟩) n cap (xs.set off v)) := by
  have e : xs.set off v = xs.take off ++ [v] ++ xs.drop (off + [v].length) := by
    rw [List.set_eq_take_append_cons_drop, if_pos h]; simp
  rw [e]
  exact row_pat (by simp only [List.length_singleton]; omega)
end Go.Free
end

section
namespace Go.Free
open Go.RowKit
def Ent (c d : Chunk) : Prop := ∀ w F, c.holds w F → ∃ G, d.holds w G ∧ ∀ b, G b → F b
theorem Ent.refl (c : Chunk) : Ent c c := fun _ F h => ⟨F, h, fun _ hb => hb⟩
theorem Ent.trans {c d e : Chunk} (h : Ent c d) (k : Ent d e) : Ent c e := fun w F hc => by
  obtain ⟨G, h1, h2⟩ := h w F hc
  obtain ⟨K, h3, h4⟩ := k w G h1
  exact ⟨K, h3, fun b hb => h2 b (h4 b hb)⟩
theorem Ent.ex {X : Type} {c : Chunk} {d : X → Chunk} (x : X) (h : Ent c (d x)) : Ent c (exC d) := fun w F hc => by
  obtain ⟨G, h1, h2⟩ := h w F hc
  exact ⟨G, ⟨x, h1⟩, h2⟩
theorem Ent.sep {c d c' d' : Chunk} (h : Ent c c') (k : Ent d d') : Ent (sepC c d) (sepC c' d') := fun w F ⟨G, K, h1, h2, h3, h4⟩ => by
  obtain ⟨G', g1, g2⟩ := h w G h3
  obtain ⟨K', k1, k2⟩ := k w K h4
  exact ⟨fun b => G' b ∨ K' b, ⟨G', K', fun _ => Iff.rfl, fun b hb hb' => h2 b (g2 b hb) (k2 b hb'), g1, k1⟩, fun b hb => (h1 b).2 (hb.elim (fun e => .inl (g2 b e)) (fun e => .inr (k2 b e)))⟩
theorem Ent.one {c : Chunk} : Ent (sepC c emp) c := fun w F ⟨G, K, h1, _, h3, _⟩ => ⟨G, h3, fun b hb => (h1 b).2 (.inl hb)⟩
theorem Ent.left {c d : Chunk} : Ent (sepC c d) c := fun w F ⟨G, K, h1, _, h3, _⟩ => ⟨G, h3, fun b hb => (h1 b).2 (.inl hb)⟩
theorem Ent.right {c d : Chunk} : Ent (sepC c d) d := fun w F ⟨G, K, h1, _, _, h4⟩ => ⟨K, h4, fun b hb => (h1 b).2 (.inr hb)⟩
theorem Ent.emp {c : Chunk} : Ent c emp := fun _ _ _ => ⟨fun _ => False, fun _ h => h, fun _ h => h.elim⟩
theorem Ent.fst {c d e : Chunk} (h : Ent c e) : Ent (sepC c d) e := Ent.left.trans h
def allC : List Chunk → Chunk
  | [] => emp
  | c :: r => sepC c (allC r)
theorem Lies.all : ∀ {H : List Chunk} {φ : Nat → Nat → Prop} {w : World}, Lies H φ w → (allC H).holds w (fun b => ∃ q, φ q b)
  | [], φ, w, h => fun b ⟨q, hb⟩ => absurd (h.bound q b hb) (Nat.not_lt_zero _)
  | c :: r, φ, w, h => by
    have h' : Lies r (fun q => φ (q + 1)) w := ⟨fun q d hq => h.holds (q + 1) d (by simpa using hq), fun p q b hp hq => by have := h.apart _ _ b hp hq; omega, fun q b hb => by have := h.bound _ b hb; simpa using this⟩
    refine ⟨φ 0, fun b => ∃ q, φ (q + 1) b, fun b => ⟨fun ⟨q, hb⟩ => ?_, fun hb => ?_⟩, fun b hb ⟨q, hb'⟩ => ?_, h.holds 0 c rfl, Lies.all h'⟩
    · cases q with
      | zero => exact .inl hb
      | succ q => exact .inr ⟨q, hb⟩
    · rcases hb with hb | ⟨q, hb⟩
      · exact ⟨0, hb⟩
      · exact ⟨q + 1, hb⟩
    · have := h.apart _ _ b hb hb'
      omega
def SpcC (P : Program) (f : FuncId) (As : List Fa) (c : Chunk) {X : Type} (ok : X → Prop) (R : X → Fa) (c' : X → Chunk) : Prop :=
  ∀ (w : World) (args : List Value) (F : Nat → Prop), Fa.dens As w args → c.holds w F → Calls P f args.toArray w fun e w' =>
    ∃ v x, e = .returned v ∧ ok x ∧ Kept F w w' ∧ (R x).den w' v ∧ ∃ F', (c' x).holds w' F' ∧ ∀ b, F' b → F b ∨ w.heap.size ≤ b
def SpcR (P : Program) (f : FuncId) (As : List Fa) (c : Chunk) (R : Nat → Fa) : Prop :=
  ∀ (w : World) (args : List Value) (F : Nat → Prop), Fa.dens As w args → c.holds w F → Calls P f args.toArray w fun e w' => ∃ v, e = .returned v ∧ Below w.heap.size w w' ∧ ∀ B, B ≤ w.heap.size → (R B).den w' v
section
variable {P : Program} {ops : Array Oper} {Q : Exit → Act → World → Prop} {n : Nat} {I : World → Prop} {k i : Nat} {E : Env} {o : Oper} {d : Bool} {A : Nat → Prop} {H : List Chunk} {key : Nat}
theorem Plan.turn (ho : ops[i]? = some o) (hg : wantB ops E o = some true) (hd : ∀ d, o.dst = some d → d < n) (hk : look E key = some (heap A H)) (hA : Own I A)
    (h : ∀ a w φ, I w → Sat E a w → (∀ x, x ∈ o.op.operands → ∀ f, opF E x = some f → f.den w (a.eval x)) → Lies H φ w → (∀ q b, φ q b → A b) → (∀ b, w.heap.size ≤ b → A b) → Sh n a →
      wpOp P ops Q i (fun a' w' => ∃ v F H' φ', a' = a.put o.dst v ∧ Kept A w w' ∧ Lies H' φ' w' ∧ (∀ q b, φ' q b → A b) ∧ F.den w' v ∧ Plan P ops Q n I d k (i + 1) (setE o.dst F ((key, heap A H') :: sieve E))) a w)
    (hq : d = false ∨ barB ops i = true) : Plan P ops Q n I d (k + 1) i E := by
  refine .inr ⟨hq, ?_⟩
  intro a w hI hsh hs
  obtain ⟨φ, hL, hLA⟩ := hs key _ hk
  refine wpOp_mono ?_ (h a w φ hI hs (fun x hx f hf => opF_den ho hx (fun t _ f hf => hs t f hf) hf) hL hLA (hA.fresh w hI) hsh)
  rintro a' w' ⟨v, F, H', φ', rfl, hK, hL', hLA', hF, hp⟩
  refine ⟨_, hp, hA.turn w w' hI hK, hsh.put _ _, ?_⟩
  have hs' : Sat ((key, heap A H') :: sieve E) a w' := by
    intro t f hf
    simp only [look] at hf
    by_cases ht : key = t
    · rw [if_pos ht] at hf; cases hf; exact ⟨φ', hL', hLA'⟩
    · rw [if_neg ht] at hf; exact sieve_sat hs w' t f hf
  intro t f hf
  cases hdst : o.dst with
  | none => rw [hdst] at hf; exact hs' t f hf
  | some dd =>
    rw [hdst] at hf
    simp only [setE, look] at hf
    by_cases hdt : dd = t
    · subst hdt
      simp only [if_true, Option.some.injEq] at hf
      subst hf
      rw [slot_put_same hsh (hd dd hdst)]
      exact hF
    · rw [if_neg hdt] at hf
      rw [slot_put_ne a hdt]
      have : look ((key, heap A H') :: sieve E) t = some f := by simpa only [look] using hf
      exact hs' t f this
theorem Plan.turnRun (ho : ops[i]? = some o) (hg : wantB ops E o = some true) (hd : ∀ d, o.dst = some d → d < n) (hk : look E key = some (heap A H)) (hA : Own I A)
    (h : ∀ a w φ, I w → Sat E a w → (∀ x, x ∈ o.op.operands → ∀ f, opF E x = some f → f.den w (a.eval x)) → Lies H φ w → (∀ q b, φ q b → A b) → (∀ b, w.heap.size ≤ b → A b) →
      ∃ v w' F H' φ', ((execOp a.eval o).run P w = .ok (.value v) w' ∨ ((execOp a.eval o).run P w = .ok .skip w' ∧ v = undef)) ∧ Kept A w w' ∧ Lies H' φ' w' ∧ (∀ q b, φ' q b → A b) ∧ F.den w' v ∧ Plan P ops Q n I d k (i + 1) (setE o.dst F ((key, heap A H') :: sieve E)))
    (hq : d = false ∨ barB ops i = true) : Plan P ops Q n I d (k + 1) i E :=
  Plan.turn ho hg hd hk hA (fun a w φ h1 h2 h3 h4 h5 h6 hsh => by
    obtain ⟨v, w', F, H', φ', hr, r⟩ := h a w φ h1 h2 h3 h4 h5 h6
    unfold wpOp
    simp only [ho, wantB_spec ho hsh (fun t _ f hf => h2 t f hf) hg, if_true]
    refine .inl ?_
    unfold Oper.wp
    rcases hr with hr | ⟨hr, rfl⟩ <;> rw [hr] <;> exact ⟨_, F, H', φ', rfl, r⟩) hq
theorem wide {H : List Chunk} {φ : Nat → Nat → Prop} {q : Nat} {w : World} {F : Nat → Prop} (h : ∀ q b, φ q b → A b) (h2 : ∀ b, w.heap.size ≤ b → A b) (hF : ∀ b, F b → φ q b ∨ w.heap.size ≤ b) : ∀ p b, (if p = q then F b else φ p b) → A b := fun p b hb => by
  by_cases he : p = q
  · rw [if_pos he] at hb
    exact (hF b hb).elim (h q b) (h2 b)
  · rw [if_neg he] at hb; exact h p b hb
theorem Plan.storeC {t : TypeId} {p x : Operand} {β off q : Nat} {c c' : Chunk} {v : Value} (ho : ops[i]? = some o) (hop : o.op = .store t p x) (hdst : o.dst = none) (hg : wantB ops E o = some true)
    (hp : opF E p = some (.ex (.pointer (some ⟨β, off, none⟩)))) (hx : opF E x = some (.ex v)) (hone : ∀ u ∈ v.cells.toList, u.oneCell' = true) (hi : (P.info? t).map (·.size) = some v.cells.size)
    (hk : look E key = some (heap A H)) (hA : Own I A) (hqH : H[q]? = some c) (hpat : c.pat β off v.cells.toList c')
    (h : Plan P ops Q n I d k (i + 1) ((key, heap A (H.set q c')) :: sieve E)) (hq : d = false ∨ barB ops i = true := by first | exact .inl rfl | exact .inr (by kernel_rfl)) : Plan P ops Q n I d (k + 1) i E :=
  Plan.turnRun ho hg (by rw [hdst]; intro _ e; cases e) hk hA (fun a w φ _ _ hs' hL hLA hfr => by
    have e1 := hs' p (by simp [hop, Op.operands]) _ hp
    have e2 := hs' x (by simp [hop, Op.operands]) _ hx
    simp only [Fa.den] at e1 e2
    obtain ⟨hβ, cur, e, hh, hle, hc'⟩ := hpat w (φ q) (hL.holds q c hqH)
    have hst := run_storeCells_at P β off e v.cells.toList 0 cur w hh (by simpa using hle) hone
    simp only [Nat.add_zero] at hst
    obtain ⟨inf, hi1, hi2⟩ : ∃ inf, P.info? t = some inf ∧ inf.size = v.cells.size := by
      cases hinf : P.info? t with
      | none => rw [hinf] at hi; cases hi
      | some inf => rw [hinf] at hi; exact ⟨inf, rfl, by simpa using hi⟩
    obtain ⟨w', hw'⟩ : ∃ w', w' = w.setRow β (cur.toList.take off ++ v.cells.toList ++ cur.toList.drop (off + v.cells.toList.length)).toArray := ⟨_, rfl⟩
    rw [← hw'] at hst
    have hK : Kept (φ q) w w' := by
      subst hw'
      exact ⟨rfl, rfl, rfl, by simp, fun kk _ hkk => setRow_other w β kk _ (fun e => hkk (by rw [e]; exact hβ))⟩
    have hc2 := hc' w' (by subst hw'; exact setRow_heap w β cur _ e _ hh)
    have hqlt : q < H.length := (List.getElem?_eq_some_iff.1 hqH).1
    have hL' := hL.upd hqlt hK hc2 (fun b hb => .inl hb)
    refine ⟨undef, w', .ex undef, H.set q c', _, .inr ⟨?_, rfl⟩, hK.mono (fun b _ hb => hLA q b hb), hL', wide (H := H) hLA hfr (fun b hb => .inl hb), by simp [Fa.den], by rw [hdst]; exact h⟩
    simp [execOp, hop, e1, e2, Instr.storeAt, Instr.sureAddr, storeVar, sizeOf, typeInfo, hi1, hi2, hst]) hq
theorem Plan.loadC {t : TypeId} {u : TypeDesc} {x : Operand} {β off q : Nat} {c : Chunk} {v : Value} (ho : ops[i]? = some o) (hop : o.op = .load t x) (hg : wantB ops E o = some true)
    (hx : opF E x = some (.ex (.pointer (some ⟨β, off, none⟩)))) (hk : look E key = some (heap A H)) (hqH : H[q]? = some c) (hr : c.reads β off [v]) (hu : P.underlying t = some u) (hna : aggB u = false) (hkn : n ≤ key)
    (h : Plan P ops Q n I d k (i + 1) (setE o.dst (.ex v) E)) : Plan P ops Q n I d (k + 1) i E :=
  Plan.step ho (Step.runK ho hg fun a w _ hs' hK => by
    have e1 := hs' x (by simp [hop, Op.operands]) _ hx
    simp only [Fa.den] at e1
    obtain ⟨φ, hL, _⟩ := hK key hkn _ hk
    have hc := hr w (φ q) (hL.holds q c hqH) 0 v rfl
    simp only [Nat.add_zero] at hc
    refine ⟨v, w, ?_, Below.refl _ _, by simp [Fa.den]⟩
    have hagg : (isAgg t).run P w = .ok false w := by
      cases u <;> simp [aggB] at hna <;> simp [isAgg, run_underlying hu]
    simp [execOp, hop, e1, Instr.loadAt, Instr.sureAddr, loadVar, hagg, run_load, hc]) h
theorem Plan.loadAggC {t : TypeId} {u : TypeDesc} {x : Operand} {β off q : Nat} {c : Chunk} {vs : List Value} (ho : ops[i]? = some o) (hop : o.op = .load t x) (hg : wantB ops E o = some true)
    (hx : opF E x = some (.ex (.pointer (some ⟨β, off, none⟩)))) (hk : look E key = some (heap A H)) (hqH : H[q]? = some c) (hr : c.reads β off vs) (hu : P.underlying t = some u) (hna : aggB u = true) (hi : (P.info? t).map (·.size) = some vs.length) (hkn : n ≤ key)
    (h : Plan P ops Q n I d k (i + 1) (setE o.dst (.ex (.agg vs.toArray)) E)) : Plan P ops Q n I d (k + 1) i E :=
  Plan.step ho (Step.runK ho hg fun a w _ hs' hK => by
    have e1 := hs' x (by simp [hop, Op.operands]) _ hx
    simp only [Fa.den] at e1
    obtain ⟨φ, hL, _⟩ := hK key hkn _ hk
    have hc := hr w (φ q) (hL.holds q c hqH)
    obtain ⟨inf, hi1, hi2⟩ : ∃ inf, P.info? t = some inf ∧ inf.size = vs.length := by
      cases hinf : P.info? t with
      | none => rw [hinf] at hi; cases hi
      | some inf => rw [hinf] at hi; exact ⟨inf, rfl, by simpa using hi⟩
    refine ⟨.agg vs.toArray, w, ?_, Below.refl _ _, by simp [Fa.den]⟩
    have hagg : (isAgg t).run P w = .ok true w := by
      cases u <;> simp [aggB] at hna <;> simp [isAgg, run_underlying hu]
    have hl := run_loadCellsFrom (P := P) ⟨β, off, none⟩ w vs.length 0 #[] vs rfl (fun j u hu => by rw [Nat.zero_add, add_at]; exact hc j u hu)
    simp [execOp, hop, e1, Instr.loadAt, Instr.sureAddr, loadVar, hagg, sizeOf, typeInfo, hi1, hi2, loadCells, hl]) h
theorem Plan.fieldC {s : TypeId} {x : Operand} {β o0 f off : Nat} {fs : Array Field} {fld : Field} (ho : ops[i]? = some o) (hop : o.op = .fieldAddr s x f) (hg : wantB ops E o = some true)
    (hx : opF E x = some (.ex (.pointer (some ⟨β, o0, none⟩)))) (hu : P.underlying s = some (.struct fs)) (hf : fs[f]? = some fld) (hi : ((P.info? fld.type).map fun i => decide (0 < i.size)) = some true) (hoff : o0 + fld.offset = off)
    (h : Plan P ops Q n I d k (i + 1) (setE o.dst (.ex (.pointer (some ⟨β, off, none⟩))) E)) : Plan P ops Q n I d (k + 1) i E :=
  Plan.step ho (Step.run ho hg fun a w _ hs' => by
    have e1 := hs' x (by simp [hop, Op.operands]) _ hx
    simp only [Fa.den] at e1
    obtain ⟨inf, hi1, hi2⟩ : ∃ inf, P.info? fld.type = some inf ∧ ¬ inf.size = 0 := by
      cases hinf : P.info? fld.type with
      | none => rw [hinf] at hi; cases hi
      | some inf => rw [hinf] at hi; exact ⟨inf, rfl, by simp at hi; omega⟩
    refine ⟨.pointer (some ⟨β, off, none⟩), w, ?_, Below.refl _ _, by simp [Fa.den]⟩
    simp [execOp, hop, e1, Instr.fieldAt, Instr.sureAddr, run_underlying hu, hf, fieldPlace, sizeOf, typeInfo, hi1, hi2, add_at, hoff]) h
theorem Plan.nilOk {x : Operand} {ad : Addr} (ho : ops[i]? = some o) (hop : o.op = .nilCheck x) (hg : wantB ops E o = some true) (hx : opF E x = some (.ex (.pointer (some ad))))
    (h : Plan P ops Q n I d k (i + 1) (setE o.dst (.ex (.pointer (some ad))) E)) : Plan P ops Q n I d (k + 1) i E :=
  Plan.step ho (Step.run ho hg fun a w _ hs' => by
    have e1 := hs' x (by simp [hop, Op.operands]) _ hx
    simp only [Fa.den] at e1
    exact ⟨.pointer (some ad), w, by simp [execOp, hop, e1], Below.refl _ _, by simp [Fa.den]⟩) h
theorem Plan.allocC {t : TypeId} {z : Value} (ho : ops[i]? = some o) (hop : o.op = .alloc t) (hg : wantB ops E o = some true) (hd : ∀ d, o.dst = some d → d < n) (hz : (P.info? t).bind (·.zero) = some z)
    (hk : look E key = some (heap A H)) (hA : Own I A)
    (h : ∀ β, Plan P ops Q n I d k (i + 1) (setE o.dst (.ex (ptr β)) ((key, heap A (H ++ [obj β z.cells.toList])) :: sieve E))) (hq : d = false ∨ barB ops i = true := by first | exact .inl rfl | exact .inr (by kernel_rfl)) : Plan P ops Q n I d (k + 1) i E :=
  Plan.turnRun ho hg hd hk hA (fun a w φ _ _ _ hL hLA hfr => by
    obtain ⟨inf, hi1, hi2⟩ : ∃ inf, P.info? t = some inf ∧ inf.zero = some z := by
      cases hinf : P.info? t with
      | none => rw [hinf] at hz; cases hz
      | some inf => rw [hinf] at hz; exact ⟨inf, rfl, by simpa using hz⟩
    have hb : Below w.heap.size w (w.alloc (.cells z.cells t)) := (Below.refl _ _).alloc (Nat.le_refl _) _
    have hL' := hL.add (c' := obj w.heap.size z.cells.toList) (F := fun b => b = w.heap.size) hb ⟨⟨t, by rw [Array.toArray_toList]; exact heap_alloc_new w _⟩, fun b => Iff.rfl⟩ (fun b e => Nat.le_of_eq e.symm)
    refine ⟨ptr w.heap.size, w.alloc (.cells z.cells t), .ex (ptr w.heap.size), _, _, .inl ?_, .ofBelow hb, hL', fun q b hb => ?_, by simp [Fa.den], h w.heap.size⟩
    · simp [execOp, hop, Instr.alloc, zeroValue, typeInfo, hi1, hi2, newVar, newRow]
    · by_cases he : q = H.length
      · simp only [if_pos he] at hb; exact hfr b (Nat.le_of_eq hb.symm)
      · simp only [if_neg he] at hb; exact hLA q b hb) hq
theorem Plan.callC {f : FuncId} {xs : List Operand} {ts : Array TypeId} {fs : List Fa} {c : Chunk} {X : Type} {ok : X → Prop} {R : X → Fa} {c' : X → Chunk} {fn : Func} {q : Nat} (ho : ops[i]? = some o)
    (hop : o.op = .call { callee := .value (.func f), args := xs.toArray, argTypes := ts }) (hg : wantB ops E o = some true) (hc : SpcC P f fs c ok R c')
    (hf : P.funcs[f]? = some fn) (hbody : fn.body.isNone = false) (hname : (fn.name == "runtime.NumGoroutine") = false) (hd : ∀ d, o.dst = some d → d < n)
    (hx : Opnds I E xs fs) (hk : look E key = some (heap A H)) (hA : Own I A) (hqH : H[q]? = some c)
    (h : ∀ x, ok x → Plan P ops Q n I d k (i + 1) (setE o.dst (R x) ((key, heap A (H.set q (c' x))) :: sieve E))) (hq : d = false ∨ barB ops i = true := by first | exact .inl rfl | exact .inr (by kernel_rfl)) : Plan P ops Q n I d (k + 1) i E :=
  Plan.turn ho hg hd hk hA (fun a w φ hI hs hs' hL hLA hfr hsh => by
    unfold wpOp
    simp only [ho, wantB_spec ho hsh (fun t _ f hf => hs t f hf) hg, if_true]
    refine .inl ?_
    unfold Oper.wp
    have hrun : (execOp a.eval o).run P w = .ok (.enter f (xs.map a.eval).toArray) w := by
      have hn : ¬ fn.name = "runtime.NumGoroutine" := by simpa using hname
      have hb : ¬ fn.body = none := by intro e; rw [e] at hbody; cases hbody
      simp [execOp, hop, resolve, invoke, callFunc, Deferred.ofValue, Act.eval, hf, hb, hn]
    rw [hrun]
    simp only [Oper.upon]
    have hden := Opnds.dens (a := a) hI hx (fun x hxm f hf => hs' x (by simp [hop, Op.operands, Call.operands, hxm]) f hf)
    refine (hc w _ (φ q) hden (hL.holds q c hqH)).mono ?_
    rintro e w' ⟨v, x, rfl, hok, hK, hR, F', hF', hFb⟩
    have hqlt : q < H.length := (List.getElem?_eq_some_iff.1 hqH).1
    exact ⟨v, R x, H.set q (c' x), _, rfl, hK.mono (fun b _ hb => hLA q b hb), hL.upd hqlt hK hF' hFb, wide (H := H) hLA hfr hFb, hR, h x hok⟩) hq
theorem Plan.callN {f : FuncId} {xs : List Operand} {ts : Array TypeId} {fs : List Fa} {X : Type} {ok : X → Prop} {R : X → Fa} {c' : X → Chunk} {fn : Func} (ho : ops[i]? = some o)
    (hop : o.op = .call { callee := .value (.func f), args := xs.toArray, argTypes := ts }) (hg : wantB ops E o = some true) (hc : SpcC P f fs emp ok R c')
    (hf : P.funcs[f]? = some fn) (hbody : fn.body.isNone = false) (hname : (fn.name == "runtime.NumGoroutine") = false) (hd : ∀ d, o.dst = some d → d < n)
    (hx : Opnds I E xs fs) (hk : look E key = some (heap A H)) (hA : Own I A)
    (h : ∀ x, ok x → Plan P ops Q n I d k (i + 1) (setE o.dst (R x) ((key, heap A (H ++ [c' x])) :: sieve E))) (hq : d = false ∨ barB ops i = true := by first | exact .inl rfl | exact .inr (by kernel_rfl)) : Plan P ops Q n I d (k + 1) i E :=
  Plan.turn ho hg hd hk hA (fun a w φ hI hs hs' hL hLA hfr hsh => by
    unfold wpOp
    simp only [ho, wantB_spec ho hsh (fun t _ f hf => hs t f hf) hg, if_true]
    refine .inl ?_
    unfold Oper.wp
    have hrun : (execOp a.eval o).run P w = .ok (.enter f (xs.map a.eval).toArray) w := by
      have hn : ¬ fn.name = "runtime.NumGoroutine" := by simpa using hname
      have hb : ¬ fn.body = none := by intro e; rw [e] at hbody; cases hbody
      simp [execOp, hop, resolve, invoke, callFunc, Deferred.ofValue, Act.eval, hf, hb, hn]
    rw [hrun]
    simp only [Oper.upon]
    have hden := Opnds.dens (a := a) hI hx (fun x hxm f hf => hs' x (by simp [hop, Op.operands, Call.operands, hxm]) f hf)
    refine (hc w _ (fun _ => False) hden (fun _ e => e)).mono ?_
    rintro e w' ⟨v, x, rfl, hok, hK, hR, F', hF', hFb⟩
    have hB : Below w.heap.size w w' := hK.below (fun _ _ e => e)
    refine ⟨v, R x, H ++ [c' x], _, rfl, .ofBelow hB, hL.add hB hF' (fun b hb => (hFb b hb).resolve_left id), fun q b hb => ?_, hR, h x hok⟩
    by_cases he : q = H.length
    · simp only [if_pos he] at hb; exact hfr b ((hFb b hb).resolve_left id)
    · simp only [if_neg he] at hb; exact hLA q b hb) hq
theorem Plan.callR {f : FuncId} {xs : List Operand} {ts : Array TypeId} {fs : List Fa} {c : Chunk} {R : Nat → Fa} {fn : Func} {q B : Nat} (ho : ops[i]? = some o)
    (hop : o.op = .call { callee := .value (.func f), args := xs.toArray, argTypes := ts }) (hg : wantB ops E o = some true) (hc : SpcR P f fs c R)
    (hf : P.funcs[f]? = some fn) (hbody : fn.body.isNone = false) (hname : (fn.name == "runtime.NumGoroutine") = false) (hB : ∀ w, I w → B ≤ w.heap.size)
    (hx : Opnds I E xs fs) (hk : look E key = some (heap A H)) (hqH : H[q]? = some c) (hkn : n ≤ key)
    (h : Plan P ops Q n I d k (i + 1) (setE o.dst (R B) E)) : Plan P ops Q n I d (k + 1) i E :=
  Plan.step (F := R B) ho (fun a w hI hsh hs => by
    unfold wpOp
    simp only [ho, wantB_spec ho hsh (fun t ht => hs t (.inl ht)) hg, if_true]
    refine .inl ?_
    unfold Oper.wp
    have hrun : (execOp a.eval o).run P w = .ok (.enter f (xs.map a.eval).toArray) w := by
      have hn : ¬ fn.name = "runtime.NumGoroutine" := by simpa using hname
      have hb : ¬ fn.body = none := by intro e; rw [e] at hbody; cases hbody
      simp [execOp, hop, resolve, invoke, callFunc, Deferred.ofValue, Act.eval, hf, hb, hn]
    rw [hrun]
    simp only [Oper.upon]
    obtain ⟨φ, hL, _⟩ := hs key (.inr hkn) _ hk
    have hden := Opnds.dens (a := a) hI hx (fun x hxm f hf => opF_den ho (by simp [hop, Op.operands, Call.operands, hxm]) (fun t ht => hs t (.inl ht)) hf)
    refine (hc w _ (φ q) hden (hL.holds q c hqH)).mono ?_
    rintro e w' ⟨v, rfl, hb, hR⟩
    exact ⟨v, by rw [dst_of ho], hb, hR B (hB w hI)⟩) h
end
end Go.Free
end

section
namespace Go.Free
open Go.RowKit
def envNow : List Fa → Nat → Env
  | [], _ => []
  | f :: fs, i => (i, f) :: envNow fs (i + 1)
theorem envNow_sat {w0 : World} {tmps : Array Value} : ∀ {fs : List Fa} {vs : List Value} {i : Nat}, Fa.dens fs w0 vs → (∀ j v, vs[j]? = some v → tmps[i + j]? = some v) →
    ∀ t f, look (envNow fs i) t = some f → f.den w0 (tmps.getD t undef)
  | [], _, _, _, _, t, f, h => by simp [envNow, look] at h
  | g :: fs, vs, i, hd, hv, t, f, h => by
    simp only [Fa.dens] at hd
    obtain ⟨y, ys, rfl, h1, h2⟩ := hd
    simp only [envNow, look] at h
    by_cases ht : i = t
    · subst ht
      simp only [if_true, Option.some.injEq] at h
      subst h
      have := hv 0 y rfl
      simp only [Nat.add_zero] at this
      have hlt : i < tmps.size := (Array.getElem?_eq_some_iff.1 this).1
      have hg : tmps.getD i undef = y := by
        simp only [Array.getD, hlt, dite_true]
        exact (Array.getElem?_eq_some_iff.1 this).2
      rw [hg]
      exact h1
    · rw [if_neg ht] at h
      exact envNow_sat (i := i + 1) h2 (fun j v hj => by have := hv (j + 1) v (by simpa using hj); rw [← this]; congr 1; omega) t f h
theorem dens_len : ∀ (w : World) (l : List Fa) (xs : List Value), Fa.dens l w xs → xs.length = l.length := by
  intro w l
  induction l with
  | nil => intro xs hx; simp only [Fa.dens] at hx; subst hx; rfl
  | cons g l ih => intro xs hx; simp only [Fa.dens] at hx; obtain ⟨y, ys, rfl, _, h2⟩ := hx; simp [ih ys h2]
theorem frame_args {args : List Value} {m : Nat} (j : Nat) (v : Value) (hj : args[j]? = some v) : (args.toArray ++ Array.replicate m undef)[0 + j]? = some v := by
  have hlt : j < args.length := (List.getElem?_eq_some_iff.1 hj).1
  have hv : args[j] = v := by have := List.getElem?_eq_getElem hlt; rw [hj] at this; exact (Option.some.inj this).symm
  simp [Array.getElem?_append, hlt, hv]
def FnPostC (P : Program) (fn : Func) {X : Type} (ok : X → Prop) (R : X → Fa) (c' : X → Chunk) (w0 : World) (F : Nat → Prop) : Exit → Act → World → Prop
  | .normal, a, w | .ret, a, w => a.defers = [] ∧ ∃ v x, (results fn a.tmps).run P w = .ok v w ∧ ok x ∧ Kept F w0 w ∧ (R x).den w v ∧ ∃ F', (c' x).holds w F' ∧ ∀ b, F' b → F b ∨ w0.heap.size ≤ b
  | _, _, _ => False
theorem Lies.one {c : Chunk} {w : World} {F : Nat → Prop} (h : c.holds w F) : Lies [c] (fun q b => q = 0 ∧ F b) w :=
  ⟨fun q d hq => by
      cases q with
      | zero => simp only [List.getElem?_cons_zero, Option.some.injEq] at hq; subst hq; simpa using h
      | succ q => simp at hq,
    fun p q b hp hq => hp.1.trans hq.1.symm, fun q b hb => by simp [hb.1]⟩
theorem SpcC.intro {P : Program} {f : FuncId} {fn : Func} {body : Code} {As : List Fa} {c : Chunk} {X : Type} {ok : X → Prop} {R : X → Fa} {c' : X → Chunk} (hf : P.funcs[f]? = some fn) (hb : fn.body = some body) (hsz : As.length ≤ fn.ntmps)
    (h : ∀ w0 F, J P fn.ntmps (fun w => Kept F w0 w) body (FnPostC P fn ok R c' w0 F) ((1000, heap (fun b => F b ∨ w0.heap.size ≤ b) [c]) :: envNow As 0)) : SpcC P f As c ok R c' := by
  intro w args F hd hc
  have hlen : args.length = As.length := dens_len w As args hd
  refine calls_of_wp hf hb ?_
  refine wp_mono (h w F _ w (Kept.refl _ _) ⟨by simp [hlen]; omega, rfl⟩ ?_) ?_
  · intro t f' hf'
    simp only [look] at hf'
    by_cases ht : 1000 = t
    · rw [if_pos ht] at hf'
      cases hf'
      exact ⟨_, Lies.one hc, fun q b hb => .inl hb.2⟩
    · rw [if_neg ht] at hf'
      exact envNow_sat (vs := args) hd (fun j v hj => frame_args j v hj) t f' hf'
  · rintro e a w' hq
    cases e <;> simp only [FnPostC] at hq <;> first | exact hq.elim | skip
    all_goals
      obtain ⟨h1, v, x, h2, h3⟩ := hq
      exact ⟨h1, v, h2, v, x, rfl, h3⟩
theorem SpcR.intro {P : Program} {f : FuncId} {fn : Func} {body : Code} {As : List Fa} {c : Chunk} {R : Nat → Fa} (hf : P.funcs[f]? = some fn) (hb : fn.body = some body) (hsz : As.length ≤ fn.ntmps)
    (h : ∀ w0, J P fn.ntmps (fun w => Below w0.heap.size w0 w) body (FnPost P fn R w0) ((1000, heap (fun _ => True) [c]) :: envArgs w0 As 0)) : SpcR P f As c R := by
  intro w args F hd hc
  have hlen : args.length = As.length := dens_len w As args hd
  refine calls_of_wp hf hb ?_
  refine wp_mono (h w _ w (Below.refl _ _) ⟨by simp [hlen]; omega, rfl⟩ ?_) ?_
  · intro t f' hf'
    simp only [look] at hf'
    by_cases ht : 1000 = t
    · rw [if_pos ht] at hf'
      cases hf'
      exact ⟨_, Lies.one hc, fun q b hb => trivial⟩
    · rw [if_neg ht] at hf'
      exact envArgs_sat (vs := args) hd (fun j v hj => frame_args j v hj) t f' hf'
  · rintro e a w' hq
    cases e <;> simp only [FnPost] at hq <;> first | exact hq.elim | skip
    all_goals
      obtain ⟨h1, v, h2, h3, h4⟩ := hq
      exact ⟨h1, v, h2, v, rfl, h3, h4⟩
section
variable {P : Program} {ops : Array Oper} {Q : Exit → Act → World → Prop} {n : Nat} {I : World → Prop} {k i : Nat} {E : Env} {o : Oper} {d : Bool} {A : Nat → Prop} {H : List Chunk} {key : Nat}
/-! ### The end of a function -/
theorem Nrm.retC1 {fn : Func} {X : Type} {ok : X → Prop} {R : X → Fa} {c' : X → Chunk} {w0 : World} {F : Nat → Prop} {t : Nat} {g : Fa} (x : X) (hr : fn.results = #[.tmp t]) (hl : look E t = some g)
    (hk : look E key = some (heap (fun b => F b ∨ w0.heap.size ≤ b) H)) (hok : ok x) (hs : Sub (fun w => Kept F w0 w) g (R x)) (he : Ent (allC H) (c' x)) : Nrm n (fun w => Kept F w0 w) (FnPostC P fn ok R c' w0 F .ret) E := fun _ w h1 h2 h3 => by
  obtain ⟨φ, hL, hA⟩ := h3 key _ hk
  obtain ⟨G, g1, g2⟩ := he w _ hL.all
  exact ⟨h2.defers, _, x, results_tmp hr _ _ _, hok, h1, hs w _ h1 (h3 t g hl), G, g1, fun b hb => by obtain ⟨q, hq⟩ := g2 b hb; exact hA q b hq⟩
theorem Nrm.retC0 {fn : Func} {X : Type} {ok : X → Prop} {R : X → Fa} {c' : X → Chunk} {w0 : World} {F : Nat → Prop} {e : Exit} (x : X) (hr : fn.results = #[]) (hl : R x = Fa.any)
    (hk : look E key = some (heap (fun b => F b ∨ w0.heap.size ≤ b) H)) (hok : ok x) (he : Ent (allC H) (c' x)) (hx : e = .normal ∨ e = .ret) : Nrm n (fun w => Kept F w0 w) (FnPostC P fn ok R c' w0 F e) E := fun a w h1 h2 h3 => by
  obtain ⟨φ, hL, hA⟩ := h3 key _ hk
  obtain ⟨G, g1, g2⟩ := he w _ hL.all
  have hres : (results fn a.tmps).run P w = .ok (.tuple #[]) w := by simp [results, hr]
  have : FnPostC P fn ok R c' w0 F .ret a w := ⟨h2.defers, _, x, hres, hok, h1, by rw [hl]; exact any_den _ _, G, g1, fun b hb => by obtain ⟨q, hq⟩ := g2 b hb; exact hA q b hq⟩
  rcases hx with rfl | rfl <;> exact this
theorem Nrm.retC2 {fn : Func} {X : Type} {ok : X → Prop} {R : X → Fa} {c' : X → Chunk} {w0 : World} {F : Nat → Prop} {t u : Nat} {fs : List Fa} (x : X) (hr : fn.results = #[.tmp t, .tmp u]) (hl : R x = .tup fs)
    (hk : look E key = some (heap (fun b => F b ∨ w0.heap.size ≤ b) H)) (hok : ok x) (hs : Ress (fun w => Kept F w0 w) E [t, u] fs) (he : Ent (allC H) (c' x)) : Nrm n (fun w => Kept F w0 w) (FnPostC P fn ok R c' w0 F .ret) E := fun a w h1 h2 h3 => by
  obtain ⟨φ, hL, hA⟩ := h3 key _ hk
  obtain ⟨G, g1, g2⟩ := he w _ hL.all
  refine ⟨h2.defers, _, x, results_tmp2 hr _ _ _, hok, h1, ?_, G, g1, fun b hb => by obtain ⟨q, hq⟩ := g2 b hb; exact hA q b hq⟩
  rw [hl]
  simp only [Fa.den]
  exact ⟨_, rfl, hs.dens h1 h3⟩
/-! ### Chunks opened and told anew -/
theorem heap_put {a : Act} {w : World} (h3 : Sat E a w) {H' : List Chunk} {φ : Nat → Nat → Prop} (hL : Lies H' φ w) (hA : ∀ q b, φ q b → A b) : Sat ((key, heap A H') :: E) a w := fun t f hf => by
  simp only [look] at hf
  by_cases ht : key = t
  · rw [if_pos ht] at hf; cases hf; exact ⟨φ, hL, hA⟩
  · rw [if_neg ht] at hf; exact h3 t f hf
theorem Lies.conv {φ : Nat → Nat → Prop} {w : World} {q : Nat} {c' : Chunk} {F : Nat → Prop} (h : Lies H φ w) (hq : q < H.length) (hc : c'.holds w F) (hF : ∀ b, F b → φ q b) :
    Lies (H.set q c') (fun p b => if p = q then F b else φ p b) w := h.upd hq (Kept.refl _ _) hc (fun b hb => .inl (hF b hb))
theorem conv_A {φ : Nat → Nat → Prop} {q : Nat} {F : Nat → Prop} (h : ∀ q b, φ q b → A b) (hF : ∀ b, F b → φ q b) : ∀ p b, (if p = q then F b else φ p b) → A b := fun p b hb => by
  by_cases he : p = q
  · rw [if_pos he] at hb; exact h q b (hF b hb)
  · rw [if_neg he] at hb; exact h p b hb
theorem J.convC {c : Code} {q : Nat} {c1 c2 : Chunk} (hk : look E key = some (heap A H)) (hq : H[q]? = some c1) (he : Ent c1 c2) (h : J P n I c Q ((key, heap A (H.set q c2)) :: E)) : J P n I c Q E := fun a w h1 h2 h3 => by
  obtain ⟨φ, hL, hA⟩ := h3 key _ hk
  obtain ⟨G, g1, g2⟩ := he w _ (hL.holds q _ hq)
  exact h a w h1 h2 (heap_put h3 (hL.conv (List.getElem?_eq_some_iff.1 hq).1 g1 g2) (conv_A hA g2))
theorem J.exC {c : Code} {q : Nat} {X : Type} {c1 : X → Chunk} (hk : look E key = some (heap A H)) (hq : H[q]? = some (Free.exC c1)) (h : ∀ x, J P n I c Q ((key, heap A (H.set q (c1 x))) :: E)) : J P n I c Q E := fun a w h1 h2 h3 => by
  obtain ⟨φ, hL, hA⟩ := h3 key _ hk
  obtain ⟨x, hx⟩ := hL.holds q _ hq
  exact h x a w h1 h2 (heap_put h3 (hL.conv (List.getElem?_eq_some_iff.1 hq).1 hx (fun _ hb => hb)) (conv_A hA (fun _ hb => hb)))
theorem J.purC {c : Code} {q : Nat} {p : Prop} {c1 : Chunk} (hk : look E key = some (heap A H)) (hq : H[q]? = some (Free.purC p c1)) (h : p → J P n I c Q ((key, heap A (H.set q c1)) :: E)) : J P n I c Q E := fun a w h1 h2 h3 => by
  obtain ⟨φ, hL, hA⟩ := h3 key _ hk
  obtain ⟨hp, hx⟩ := hL.holds q _ hq
  exact h hp a w h1 h2 (heap_put h3 (hL.conv (List.getElem?_eq_some_iff.1 hq).1 hx (fun _ hb => hb)) (conv_A hA (fun _ hb => hb)))
theorem Lies.split {φ : Nat → Nat → Prop} {w : World} {q : Nat} {c1 c2 : Chunk} (h : Lies H φ w) (hq : H[q]? = some (Free.sepC c1 c2)) : ∃ φ', Lies (H.set q c1 ++ [c2]) φ' w ∧ ∀ p b, φ' p b → ∃ p', φ p' b := by
  obtain ⟨G, K, e1, e2, e3, e4⟩ := h.holds q _ hq
  have hql : q < H.length := (List.getElem?_eq_some_iff.1 hq).1
  have h0 : ∀ p b, (if p = q then G b else φ p b) → φ p b := fun p b hb => by
    by_cases he : p = q
    · rw [if_pos he] at hb; rw [he]; exact (e1 b).2 (.inl hb)
    · rw [if_neg he] at hb; exact hb
  have hc := h.conv hql e3 (fun b hb => (e1 b).2 (.inl hb))
  refine ⟨fun p b => if p = H.length then K b else if p = q then G b else φ p b, ⟨fun p c hp => ?_, fun p p' b hp hp' => ?_, fun p b hp => ?_⟩, fun p b hb => ?_⟩
  · by_cases he : p = H.length
    · subst he
      rw [List.getElem?_append_right (by simp), List.length_set, Nat.sub_self] at hp
      cases hp
      simpa using e4
    · have hl : p < (H.set q c1 ++ [c2]).length := (List.getElem?_eq_some_iff.1 hp).1
      rw [List.length_append, List.length_set, List.length_singleton] at hl
      rw [List.getElem?_append_left (by rw [List.length_set]; omega)] at hp
      simp only [if_neg he]
      exact hc.holds p c hp
  · by_cases he : p = H.length
    · by_cases he' : p' = H.length
      · rw [he, he']
      · simp only [if_pos he] at hp
        simp only [if_neg he'] at hp'
        exfalso
        by_cases hpq : p' = q
        · rw [if_pos hpq] at hp'; exact e2 b hp' hp
        · rw [if_neg hpq] at hp'; exact hpq (h.apart _ _ b hp' ((e1 b).2 (.inr hp)))
    · by_cases he' : p' = H.length
      · simp only [if_neg he] at hp
        simp only [if_pos he'] at hp'
        exfalso
        by_cases hpq : p = q
        · rw [if_pos hpq] at hp; exact e2 b hp hp'
        · rw [if_neg hpq] at hp; exact hpq (h.apart _ _ b hp ((e1 b).2 (.inr hp')))
      · simp only [if_neg he] at hp
        simp only [if_neg he'] at hp'
        exact hc.apart p p' b hp hp'
  · rw [List.length_append, List.length_set, List.length_singleton]
    by_cases he : p = H.length
    · omega
    · simp only [if_neg he] at hp
      have := h.bound p b (h0 p b hp)
      omega
  · by_cases he : p = H.length
    · simp only [if_pos he] at hb
      exact ⟨q, (e1 b).2 (.inr hb)⟩
    · simp only [if_neg he] at hb
      exact ⟨p, h0 p b hb⟩
theorem J.sepC {c : Code} {q : Nat} {c1 c2 : Chunk} (hk : look E key = some (heap A H)) (hq : H[q]? = some (Free.sepC c1 c2)) (h : J P n I c Q ((key, heap A (H.set q c1 ++ [c2])) :: E)) : J P n I c Q E := fun a w h1 h2 h3 => by
  obtain ⟨φ, hL, hA⟩ := h3 key _ hk
  obtain ⟨φ', hL', hA'⟩ := hL.split hq
  exact h a w h1 h2 (heap_put h3 hL' (fun p b hb => by obtain ⟨p', hp'⟩ := hA' p b hb; exact hA p' b hp'))
theorem J.factC {c : Code} {q : Nat} {c1 : Chunk} {p : Prop} (hk : look E key = some (heap A H)) (hq : H[q]? = some c1) (hf : ∀ w F, c1.holds w F → p) (h : p → J P n I c Q E) : J P n I c Q E := fun a w h1 h2 h3 => by
  obtain ⟨φ, hL, _⟩ := h3 key _ hk
  exact h (hf w _ (hL.holds q _ hq)) a w h1 h2 h3
theorem row_fact {e sz n cap : Nat} {B : Option Addr} {xs : List Value} {w : World} {F : Nat → Prop} (h : (rowC e sz B n cap xs).holds w F) :
    xs.length = n * sz ∧ n ≤ cap ∧ cap ≤ 9223372036854775807 ∧ ((B = none ∧ n = 0 ∧ cap = 0) ∨ ∃ g, B = some ⟨g, 0, none⟩) := by
  refine ⟨h.1.1, ?_⟩
  rcases h.1.2 with ⟨h0, h1⟩ | ⟨g, cp, cur, hv, _, _, h1, h2, _⟩
  · simp only [Value.slice.injEq] at h0
    exact ⟨by omega, by omega, .inl h0⟩
  · simp only [Value.slice.injEq] at hv
    obtain ⟨rfl, -, rfl⟩ := hv
    exact ⟨h1, by simpa [maxLen] using h2, .inr ⟨g, rfl⟩⟩
theorem row_rowH {e sz n cap : Nat} {B : Option Addr} {xs : List Value} {w : World} {F : Nat → Prop} (h : (rowC e sz B n cap xs).holds w F) : rowH sz xs w (.slice B n cap) :=
  own_row (B := 0) (e := e) ⟨Nat.zero_le _, n, h.1⟩
theorem Ent.rowCut {e sz n m cap : Nat} {B : Option Addr} {xs : List Value} (hm : m ≤ n) : Ent (rowC e sz B n cap xs) (rowC e sz B m cap (xs.take (m * sz))) := fun w F h => by
  refine ⟨F, ⟨⟨?_, ?_⟩, fun b => (h.2 b).trans ?_⟩, fun _ hb => hb⟩
  · rw [List.length_take, h.1.1]; exact Nat.min_eq_left (Nat.mul_le_mul_right _ hm)
  · rcases h.1.2 with ⟨h0, h1⟩ | ⟨g, cp, cur, hv, h0, h1, h2, h3, h4, h5⟩
    · simp only [Value.slice.injEq] at h0
      obtain ⟨rfl, rfl, rfl⟩ := h0
      obtain rfl : m = 0 := by omega
      exact .inl ⟨rfl, rfl⟩
    · simp only [Value.slice.injEq] at hv
      obtain ⟨rfl, -, rfl⟩ := hv
      refine .inr ⟨g, cap, cur, rfl, h0, h1, by omega, h3, h4, ?_⟩
      rw [← h5, List.take_take, Nat.min_eq_left (Nat.mul_le_mul_right _ hm)]
  · cases B <;> rfl
theorem Ent.rowEq {e sz n cap : Nat} {B : Option Addr} {xs ys : List Value} (h : xs = ys) : Ent (rowC e sz B n cap xs) (rowC e sz B n cap ys) := h ▸ Ent.refl _
theorem nil_row (e sz : Nat) (w : World) : (rowC e sz none 0 0 []).holds w (fun _ => False) := ⟨World.ownsRow_nil w 0 e sz, fun b => ⟨fun h => h.elim, fun h => by simp [Value.ownBlock] at h⟩⟩
theorem Ent.nilRow {c : Chunk} {e sz : Nat} : Ent c (rowC e sz none 0 0 []) := fun w _ _ => ⟨_, nil_row e sz w, fun _ h => h.elim⟩
theorem J.nilRow {c : Code} (e sz : Nat) (hk : look E key = some (heap A H)) (h : J P n I c Q ((key, heap A (H ++ [rowC e sz none 0 0 []])) :: E)) : J P n I c Q E := fun a w h1 h2 h3 => by
  obtain ⟨φ, hL, hA⟩ := h3 key _ hk
  refine h a w h1 h2 (heap_put h3 (hL.add (Below.refl _ _) (nil_row e sz w) (fun _ h => h.elim)) (fun q b hb => ?_))
  by_cases he : q = H.length
  · simp only [if_pos he] at hb
  · simp only [if_neg he] at hb; exact hA q b hb
/-! ### Operations -/
theorem Plan.loadRowC {t : TypeId} {u : TypeDesc} {x : Operand} {β off q q2 m cap e sz : Nat} {c : Chunk} {B : Option Addr} {xs : List Value} (ho : ops[i]? = some o) (hop : o.op = .load t x) (hg : wantB ops E o = some true)
    (hx : opF E x = some (.ex (.pointer (some ⟨β, off, none⟩)))) (hk : look E key = some (heap A H)) (hqH : H[q]? = some c) (hr : c.reads β off [.slice B m cap]) (hqH2 : H[q2]? = some (rowC e sz B m cap xs)) (hu : P.underlying t = some u) (hna : aggB u = false) (hkn : n ≤ key)
    (h : Plan P ops Q n I d k (i + 1) (setE o.dst (row sz xs) E)) : Plan P ops Q n I d (k + 1) i E :=
  Plan.step ho (Step.runK ho hg fun a w _ hs' hK => by
    have e1 := hs' x (by simp [hop, Op.operands]) _ hx
    simp only [Fa.den] at e1
    obtain ⟨φ, hL, _⟩ := hK key hkn _ hk
    have hc := hr w (φ q) (hL.holds q c hqH) 0 _ rfl
    simp only [Nat.add_zero] at hc
    refine ⟨.slice B m cap, w, ?_, Below.refl _ _, row_rowH (hL.holds q2 _ hqH2)⟩
    have hagg : (isAgg t).run P w = .ok false w := by
      cases u <;> simp [aggB] at hna <;> simp [isAgg, run_underlying hu]
    simp [execOp, hop, e1, Instr.loadAt, Instr.sureAddr, loadVar, hagg, run_load, hc]) h
theorem Plan.lenE {t e : TypeId} {x : Operand} {B : Option Addr} {m cap : Nat} (ho : ops[i]? = some o) (hop : o.op = .call { callee := .builtin .len, args := #[x], argTypes := #[t] }) (hg : wantB ops E o = some true)
    (hx : opF E x = some (.ex (.slice B m cap))) (hu : P.underlying t = some (.slice e))
    (h : Plan P ops Q n I d k (i + 1) (setE o.dst (.ex (.int .i64 m)) E)) : Plan P ops Q n I d (k + 1) i E :=
  Plan.step ho (Step.run ho hg fun a w hI hs' => by
    have hv := hs' x (by simp [hop, Op.operands, Call.operands]) _ hx
    simp only [Fa.den] at hv
    refine ⟨.int .i64 m, w, ?_, Below.refl _ _, by simp [Fa.den]⟩
    have hr : (Builtin.len_ #[t] o.type #[.slice B m cap]).run P w = .ok (goInt m) w := by simp [Builtin.len_, run_underlying hu]
    simp only [execOp, hop, resolve, invoke, builtin, List.map_toArray, List.map_cons, List.map_nil, hv, Sem.run_bind, Sem.run_pure, Result.andThen_ok, hr]
    rfl) h
theorem Plan.eqlPtr {t yt : TypeId} {x : Operand} {p : Option Addr} (ho : ops[i]? = some o) (hop : o.op = .binOp .eql t x (.const (.pointer none)) yt) (hg : wantB ops E o = some true)
    (hx : opF E x = some (.ex (.pointer p))) (hu : P.underlying t = some (.pointer (P.pointee t)))
    (h : Plan P ops Q n I d k (i + 1) (setE o.dst (.ex (.bool p.isNone)) E)) : Plan P ops Q n I d (k + 1) i E :=
  Plan.step ho (Step.run ho hg fun a w hI hs' => by
    have hv := hs' x (by simp [hop, Op.operands]) _ hx
    simp only [Fa.den] at hv
    refine ⟨.bool p.isNone, w, ?_, Below.refl _ _, by simp [Fa.den]⟩
    have hev : a.eval (.const (.pointer none)) = .pointer none := rfl
    have hgd : (eqGuard .eql t x (.const (.pointer none)) (.pointer p) (.pointer none)).run P w = .ok () w := by simp [eqGuard]
    simp only [execOp, hop, hv, hev, Sem.run_bind, hgd, Result.andThen_ok, run_eql_pointer_nil w t p hu, Sem.run_pure]) h
theorem Plan.neqPtr {t yt : TypeId} {x : Operand} {p : Option Addr} (ho : ops[i]? = some o) (hop : o.op = .binOp .neq t x (.const (.pointer none)) yt) (hg : wantB ops E o = some true)
    (hx : opF E x = some (.ex (.pointer p))) (hu : P.underlying t = some (.pointer (P.pointee t)))
    (h : Plan P ops Q n I d k (i + 1) (setE o.dst (.ex (.bool (!p.isNone))) E)) : Plan P ops Q n I d (k + 1) i E :=
  Plan.step ho (Step.run ho hg fun a w hI hs' => by
    have hv := hs' x (by simp [hop, Op.operands]) _ hx
    simp only [Fa.den] at hv
    refine ⟨.bool (!p.isNone), w, ?_, Below.refl _ _, by simp [Fa.den]⟩
    have hev : a.eval (.const (.pointer none)) = .pointer none := rfl
    have hgd : (eqGuard .neq t x (.const (.pointer none)) (.pointer p) (.pointer none)).run P w = .ok () w := by simp [eqGuard]
    simp only [execOp, hop, hv, hev, Sem.run_bind, hgd, Result.andThen_ok, run_neq_pointer_nil w t p hu, Sem.run_pure]) h
def Parts (E : Env) : List (Nat × Operand) → List (Nat × Value) → Prop
  | [], vs => vs = []
  | (j, x) :: r, vs => ∃ v r', opF E x = some (.ex v) ∧ vs = (j, v) :: r' ∧ Parts E r r'
theorem Parts.nil : Parts E [] [] := rfl
theorem Parts.cons {j : Nat} {x : Operand} {r : List (Nat × Operand)} {v : Value} {r' : List (Nat × Value)} (h : opF E x = some (.ex v)) (hr : Parts E r r') : Parts E ((j, x) :: r) ((j, v) :: r') := ⟨v, r', h, rfl, hr⟩
theorem Parts.eval {w : World} {a : Act} : ∀ {ps : List (Nat × Operand)} {vs : List (Nat × Value)}, Parts E ps vs → (∀ p ∈ ps, ∀ f, opF E p.2 = some f → f.den w (a.eval p.2)) → ps.map (fun p => (p.1, a.eval p.2)) = vs
  | [], _, h, _ => by simp only [Parts] at h; subst h; rfl
  | (j, x) :: r, _, h, hs => by
    obtain ⟨v, r', h1, rfl, h3⟩ := h
    have hv := hs (j, x) List.mem_cons_self _ h1
    simp only [Fa.den] at hv
    rw [List.map_cons, Parts.eval h3 (fun p hp => hs p (List.mem_cons_of_mem _ hp)), hv]
theorem Plan.build {t : TypeId} {ps : List (Nat × Operand)} {vs : List (Nat × Value)} {cells : Array Value} (ho : ops[i]? = some o) (hop : o.op = .build t ps.toArray) (hg : wantB ops E o = some true)
    (hps : Parts E ps vs) (hb : P.built t vs = some cells)
    (h : Plan P ops Q n I d k (i + 1) (setE o.dst (.ex (.agg cells)) E)) : Plan P ops Q n I d (k + 1) i E :=
  Plan.step ho (Step.run ho hg fun a w hI hs' => by
    have hv := hps.eval (w := w) (a := a) (fun p hp f hf => hs' p.2 (by simp only [hop, Op.operands]; simp; exact ⟨p.1, hp⟩) f hf)
    refine ⟨.agg cells, w, ?_, Below.refl _ _, by simp [Fa.den]⟩
    have hr := run_build (P := P) w t vs.toArray cells (by simpa using hb)
    have he : (ps.toArray.map fun (p : Nat × Operand) => (p.1, a.eval p.2)) = vs.toArray := by rw [List.map_toArray, hv]
    simp only [execOp, hop, Sem.run_bind]
    erw [he]
    rw [hr]
    rfl) h
theorem Plan.boxC {t : TypeId} {x : Operand} {v : Value} (ho : ops[i]? = some o) (hop : o.op = .box t x) (hg : wantB ops E o = some true) (hd : ∀ d, o.dst = some d → d < n) (hx : opF E x = some (.ex v))
    (hk : look E key = some (heap A H)) (hA : Own I A)
    (h : ∀ β, Plan P ops Q n I d k (i + 1) (setE o.dst (.ex (ptr β)) ((key, heap A (H ++ [obj β v.cells.toList])) :: sieve E))) (hq : d = false ∨ barB ops i = true := by first | exact .inl rfl | exact .inr (by kernel_rfl)) : Plan P ops Q n I d (k + 1) i E :=
  Plan.turnRun ho hg hd hk hA (fun a w φ _ _ hs' hL hLA hfr => by
    have e1 := hs' x (by simp [hop, Op.operands]) _ hx
    simp only [Fa.den] at e1
    have hb : Below w.heap.size w (w.alloc (.cells v.cells t)) := (Below.refl _ _).alloc (Nat.le_refl _) _
    have hL' := hL.add (c' := obj w.heap.size v.cells.toList) (F := fun b => b = w.heap.size) hb ⟨⟨t, by rw [Array.toArray_toList]; exact heap_alloc_new w _⟩, fun b => Iff.rfl⟩ (fun b e => Nat.le_of_eq e.symm)
    refine ⟨ptr w.heap.size, w.alloc (.cells v.cells t), .ex (ptr w.heap.size), _, _, .inl ?_, .ofBelow hb, hL', fun q b hb => ?_, by simp [Fa.den], h w.heap.size⟩
    · simp [execOp, hop, e1, Instr.box, newVar, newRow]
    · by_cases he : q = H.length
      · simp only [if_pos he] at hb; exact hfr b (Nat.le_of_eq hb.symm)
      · simp only [if_neg he] at hb; exact hLA q b hb) hq
theorem run_append_rowC {w : World} {t ty e : TypeId} {z : Value} {sz bytes n0 cap : Nat} {B : Option Addr} {xs news : List Value} {y : Value} (he : Elt P t e z sz bytes)
    (hown : w.ownsRow 0 e sz (.slice B n0 cap) n0 xs) (hy : rowH sz news w y) (h1 : ∀ u ∈ news, u.oneCell' = true) (hlim : (xs.length + news.length) * bytes ≤ 140737488355328 * sz) :
    ∃ B' m cap' w', (Builtin.append_ #[t, t] ty #[.slice B n0 cap, y]).run P w = .ok (.slice B' m cap') w' ∧ m * sz = xs.length + news.length ∧ w'.ownsRow 0 e sz (.slice B' m cap') m (xs ++ news) ∧ w.grownBy w' (Value.slice B n0 cap).ownBlock ∧
      ∀ b, (Value.slice B' m cap').ownBlock = some b → (Value.slice B n0 cap).ownBlock = some b ∨ w.heap.size ≤ b := by
  obtain ⟨v', w', hr, ⟨_, m, hm⟩, hg⟩ := run_append_rows (B := 0) (ty := ty) he ⟨Nat.zero_le _, n0, hown⟩ hy h1 hlim
  have hsl : ∃ B' cap', v' = .slice B' m cap' := by
    rcases hm.2 with ⟨h0, hm0⟩ | ⟨g, cp, cur, h0, _⟩
    · exact ⟨_, _, by rw [h0, hm0]⟩
    · exact ⟨_, _, h0⟩
  obtain ⟨B', cap', rfl⟩ := hsl
  refine ⟨B', m, cap', w', hr, by rw [← hm.1, List.length_append], hm, hg, fun b hb => ?_⟩
  obtain ⟨inf, hi, hz, hsz, hby⟩ := he.hi
  obtain ⟨A2, m2, c2, rfl, hmc, hc, hl, hnil, hcell⟩ := hy
  have hpos := he.hs
  have hnm : (n0 + m2) * bytes ≤ 140737488355328 := by
    have e1 : (xs.length + news.length) = (n0 + m2) * sz := by rw [hown.1, hl, Nat.add_mul]
    rw [e1, Nat.mul_assoc, Nat.mul_comm sz bytes, ← Nat.mul_assoc] at hlim
    exact Nat.le_of_mul_le_mul_right hlim hpos
  have h63 : n0 + m2 ≤ maxLen := by
    have := he.hb
    have h2 : n0 + m2 ≤ (n0 + m2) * bytes := Nat.le_mul_of_pos_right _ this
    simp only [maxLen]; omega
  cases A2 with
  | none =>
    obtain rfl := hnil rfl
    obtain rfl : m2 = 0 := by omega
    have hr2 := run_append_owned_none (P := P) w 0 t ty e inf sz he.ht hi (.slice B n0 cap) n0 xs hown
    rw [hr2] at hr
    simp only [Result.ok.injEq] at hr
    rw [hr.1]; exact .inl hb
  | some ad =>
    have hcs : ∀ j u, news[j]? = some u → w.cell? (ad.add j) = some u := fun j u hu => by
      obtain ⟨ad', hA, hc⟩ := hcell j u hu
      cases hA; exact hc
    rcases hown.2 with ⟨h0, hn0⟩ | ⟨g, cp, cur, hv, hb0, hg0, h5, h6, h7, h8⟩
    · -- a nil slice: whatever is new lies behind all
      have hx : xs = [] := List.eq_nil_of_length_eq_zero (by rw [hown.1, hn0, Nat.zero_mul])
      rw [h0] at hr
      have hwn : w.ownsRow w.heap.size e sz (.slice none 0 0) 0 xs := by rw [hx]; exact World.ownsRow_nil w _ e sz
      obtain ⟨v3, w3, hr3, h3, _⟩ := run_append_own (P := P) w w.heap.size t ty e inf z sz bytes he.ht hi hz hsz hby he.hz hpos (.slice none 0 0) 0 xs hwn ad m2 c2 news hl hcs h1 (by omega) (by
        have h9 := hnm; rw [hn0] at h9; exact h9) (Nat.le_refl _)
      rw [hr3] at hr
      simp only [Result.ok.injEq] at hr
      obtain ⟨rfl, rfl⟩ := hr
      exact .inr (h3.lt b hb).1
    · simp only [Value.slice.injEq] at hv
      obtain ⟨rfl, -, rfl⟩ := hv
      by_cases hroom : n0 + m2 ≤ cap
      · obtain ⟨w3, hr3, _, _⟩ := run_append_fits (P := P) w 0 t ty e inf sz he.ht hi hsz g n0 cap xs hown ad m2 c2 news hl hcs h1 hroom
        rw [hr3] at hr
        simp only [Result.ok.injEq] at hr
        rw [← hr.1] at hb
        exact .inl hb
      · have hr3 := run_append_grow (P := P) w t ty e inf z he.ht hi hz ⟨g, 0, none⟩ n0 cap xs (by rw [hsz]; exact hown.1) (hown.cells (g := g) rfl) ad m2 c2 news (by rw [hsz]; exact hl) hcs (by omega) (by have := h63; simp only [maxLen] at this; omega) (growslice_fits (by omega) (by rw [hby]; exact hnm))
        rw [hr3] at hr
        simp only [Result.ok.injEq] at hr
        rw [← hr.1] at hb
        simp only [Value.ownBlock, Option.some.injEq] at hb
        exact .inr (Nat.le_of_eq hb)
theorem Plan.appendC {x y : Operand} {t e : TypeId} {z : Value} {sz bytes m cap q : Nat} {B : Option Addr} {xs news : List Value} {g : Fa} (ho : ops[i]? = some o) (hop : o.op = .call { callee := .builtin .append, args := #[x, y], argTypes := #[t, t] })
    (hg : wantB ops E o = some true) (hx : opF E x = some (.ex (.slice B m cap))) (hy : opF E y = some g) (hs : Sub I g (row sz news)) (he : Elt P t e z sz bytes) (hd : ∀ d, o.dst = some d → d < n)
    (hk : look E key = some (heap A H)) (hA : Own I A) (hqH : H[q]? = some (rowC e sz B m cap xs))
    (h1 : ∀ u ∈ news, u.oneCell' = true) (hlim : (xs.length + news.length) * bytes ≤ 140737488355328 * sz)
    (h : ∀ B' m' cap', m' * sz = xs.length + news.length → Plan P ops Q n I d k (i + 1) (setE o.dst (.ex (.slice B' m' cap')) ((key, heap A (H.set q (rowC e sz B' m' cap' (xs ++ news)))) :: sieve E)))
    (hq : d = false ∨ barB ops i = true := by first | exact .inl rfl | exact .inr (by kernel_rfl)) : Plan P ops Q n I d (k + 1) i E :=
  Plan.turnRun ho hg hd hk hA (fun a w φ hI _ hs' hL hLA hfr => by
    have e1 := hs' x (by simp [hop, Op.operands, Call.operands]) _ hx
    have e2 := hs w _ hI (hs' y (by simp [hop, Op.operands, Call.operands]) _ hy)
    simp only [Fa.den] at e1
    have hc := hL.holds q _ hqH
    obtain ⟨B', m', cap', w', hr, hm', h2, h3, h4⟩ := run_append_rowC (ty := o.type) he hc.1 e2 h1 hlim
    have hK : Kept (φ q) w w' := (Kept.ofGrown h3).mono (fun b _ hb => (hc.2 b).2 hb)
    have hF : ∀ b, (Value.slice B' m' cap').ownBlock = some b → φ q b ∨ w.heap.size ≤ b := fun b hb => (h4 b hb).imp (fun e => (hc.2 b).2 e) id
    have hqlt : q < H.length := (List.getElem?_eq_some_iff.1 hqH).1
    refine ⟨.slice B' m' cap', w', .ex (.slice B' m' cap'), _, _, .inl ?_, hK.mono (fun b _ hb => hLA q b hb), hL.upd (c' := rowC e sz B' m' cap' (xs ++ news)) hqlt hK ⟨h2, fun _ => Iff.rfl⟩ hF, wide (H := H) hLA hfr hF, by simp [Fa.den], h B' m' cap' hm'⟩
    simp only [execOp, hop, resolve, invoke, builtin, List.map_toArray, List.map_cons, List.map_nil, e1, Sem.run_bind, Sem.run_pure, Result.andThen_ok, hr]) hq
theorem J.takeC {c : Code} {t B e sz : Nat} {cs : List Value} {f : Fa} (hf : look E t = some f) (hs : Sub I f (Free.own B e sz cs)) (hk : look E key = some (heap (fun b => A b ∧ b < B) H)) (hA : ∀ b, B ≤ b → A b)
    (h : ∀ B' m cap, m * sz = cs.length → J P n I c Q ((t, .ex (.slice B' m cap)) :: (key, heap A (H ++ [rowC e sz B' m cap cs])) :: E)) : J P n I c Q E := fun a w h1 h2 h3 => by
  obtain ⟨φ, hL, hLA⟩ := h3 key _ hk
  obtain ⟨_, m, hm⟩ := hs w _ h1 (h3 t f hf)
  have hsl : ∃ B' cap', a.slot t = .slice B' m cap' := by
    rcases hm.2 with ⟨h0, hm0⟩ | ⟨g, cp, cur, h0, _⟩
    · exact ⟨_, _, by rw [h0, hm0]⟩
    · exact ⟨_, _, h0⟩
  obtain ⟨B', cap, hv⟩ := hsl
  rw [hv] at hm
  refine h B' m cap hm.1.symm a w h1 h2 (derive_sat (heap_put h3 (φ := fun p b => if p = H.length then (Value.slice B' m cap).ownBlock = some b else φ p b) ?_ ?_) (by simp [Fa.den, hv]))
  · have hm0 : w.ownsRow 0 e sz (.slice B' m cap) m cs := by
      refine ⟨hm.1, ?_⟩
      rcases hm.2 with h0 | ⟨g, cp, cur, hv, hb, r⟩
      · exact .inl h0
      · exact .inr ⟨g, cp, cur, hv, Nat.zero_le _, r⟩
    refine ⟨fun p c hp => ?_, fun p p' b hp hp' => ?_, fun p b hp => ?_⟩
    · by_cases he : p = H.length
      · subst he
        simp only [List.getElem?_concat_length, Option.some.injEq] at hp
        subst hp
        simp only [if_true]
        exact ⟨hm0, fun _ => Iff.rfl⟩
      · have hl : p < (H ++ [rowC e sz B' m cap cs]).length := (List.getElem?_eq_some_iff.1 hp).1
        have hl' : p < H.length := by simp at hl; omega
        rw [List.getElem?_append_left hl'] at hp
        simp only [if_neg he]
        exact hL.holds p c hp
    · by_cases he : p = H.length
      · by_cases he' : p' = H.length
        · rw [he, he']
        · simp only [if_pos he] at hp
          simp only [if_neg he'] at hp'
          have h5 := (hm.lt b hp).1
          have h6 := (hLA p' b hp').2
          omega
      · by_cases he' : p' = H.length
        · simp only [if_neg he] at hp
          simp only [if_pos he'] at hp'
          have h5 := (hm.lt b hp').1
          have h6 := (hLA p b hp).2
          omega
        · simp only [if_neg he] at hp
          simp only [if_neg he'] at hp'
          exact hL.apart p p' b hp hp'
    · rw [List.length_append]
      by_cases he : p = H.length
      · simp [he]
      · simp only [if_neg he] at hp
        have := hL.bound p b hp
        simp; omega
  · intro q b hb
    by_cases he : q = H.length
    · simp only [if_pos he] at hb
      exact hA b (hm.lt b hb).1
    · simp only [if_neg he] at hb
      exact (hLA q b hb).1
end
end Go.Free
end
