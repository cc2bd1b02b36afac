/-
  Appending to rows of the call own, making them, and slice literals.
-/
import Derived.Test.YtkhcjedlopiicaaFreeFns
import Derived.KernelRfl
set_option linter.unusedSimpArgs false
set_option linter.unusedVariables false
set_option maxRecDepth 20000
namespace Go.Free
open Go.RowKit

/-- What an element type is: its slice type, its zero, its cells and bytes. -/
structure Elt (P : Program) (t e : TypeId) (z : Value) (sz bytes : Nat) : Prop where
  ht : P.underlying t = some (.slice e)
  hi : ∃ i, P.info? e = some i ∧ i.zero = some z ∧ i.size = sz ∧ i.bytes = bytes
  hz : z.cells.size = sz
  hs : 0 < sz
  hb : 0 < bytes

theorem Elt.mk' {P : Program} {t e : TypeId} {z : Value} {sz bytes : Nat} (ht : P.underlying t = some (.slice e)) (hi : (P.info? e).map (fun i => (i.zero, i.size, i.bytes)) = some (some z, sz, bytes)) (hz : z.cells.size = sz) (hs : 0 < sz) (hb : 0 < bytes) : Elt P t e z sz bytes :=
  ⟨ht, by obtain ⟨i, h1, h2, h3, h4⟩ := info_parts hi; exact ⟨i, h1, h2, h3, h4⟩, hz, hs, hb⟩

theorem run_append_rows {P : Program} {w : World} {t ty e : TypeId} {z : Value} {sz bytes B : Nat} {xs news : List Value} {v y : Value} (he : Elt P t e z sz bytes)
    (hown : ownH B e sz xs w v) (hy : rowH sz news w y) (h1 : ∀ u ∈ news, u.oneCell' = true) (hlim : (xs.length + news.length) * bytes ≤ 140737488355328 * sz) :
    ∃ v' w', (Builtin.append_ #[t, t] ty #[v, y]).run P w = .ok v' w' ∧ ownH B e sz (xs ++ news) w' v' ∧ w.grownBy w' v.ownBlock := by
  obtain ⟨i, hi, hz, hsz, hby⟩ := he.hi
  obtain ⟨hB, n, hn⟩ := hown
  obtain ⟨A, m, c, rfl, hmc, hc, hl, hnil, hcell⟩ := hy
  have hpos := he.hs
  have hnm : (n + m) * bytes ≤ 140737488355328 := by
    have e1 : (xs.length + news.length) = (n + m) * sz := by rw [hn.1, hl, Nat.add_mul]
    rw [e1, Nat.mul_assoc, Nat.mul_comm sz bytes, ← Nat.mul_assoc] at hlim
    exact Nat.le_of_mul_le_mul_right hlim hpos
  have h63 : n + m ≤ maxLen := by
    have := he.hb
    have h2 : n + m ≤ (n + m) * bytes := Nat.le_mul_of_pos_right _ this
    simp only [maxLen]; omega
  cases A with
  | none =>
    obtain rfl := hnil rfl
    obtain rfl : m = 0 := by omega
    have hnews : news = [] := List.eq_nil_of_length_eq_zero (by simpa using hl)
    subst hnews
    refine ⟨v, w, run_append_owned_none w B t ty e i sz he.ht hi v n xs hn, ⟨hB, n, by simpa using hn⟩, ⟨rfl, rfl, rfl, Nat.le_refl _, fun _ _ _ => rfl⟩⟩
  | some ad =>
    obtain ⟨v', w', hr, h2, h3, _⟩ := run_append_own (P := P) w B t ty e i z sz bytes he.ht hi hz hsz hby he.hz hpos v n xs hn ad m c news hl (fun j u hu => by
      obtain ⟨ad', hA, hc⟩ := hcell j u hu
      cases hA; exact hc) h1 h63 hnm hB
    exact ⟨v', w', hr, ⟨Nat.le_trans hB h3.size, _, h2⟩, h3⟩

/-! ### What stays known when memory of the call's own is turned -/
def keeps : Fa → Bool
  | .ex _ => true
  | .old _ _ => true
  | _ => false
def sieve : Env → Env
  | [] => []
  | (t, f) :: r => (t, if keeps f then f else Fa.any) :: sieve r

theorem keeps_den {f : Fa} (h : keeps f = true) {w w' : World} {v : Value} (hd : f.den w v) : f.den w' v := by
  cases f with
  | ex u => exact hd
  | old w0 g => simpa only [Fa.den] using hd
  | is p => cases h
  | tup l => cases h
theorem any_den (w : World) (v : Value) : Fa.any.den w v := by simp [Fa.any, Fa.den]
theorem look_sieve : ∀ {E : Env} {t : Nat} {f : Fa}, look (sieve E) t = some f → ∃ g, look E t = some g ∧ f = if keeps g then g else Fa.any
  | [], t, f, h => by simp [sieve, look] at h
  | (s, g) :: r, t, f, h => by
    simp only [sieve, look] at h ⊢
    by_cases hs : s = t
    · simp only [hs, if_true, Option.some.injEq] at h ⊢; exact ⟨g, rfl, h.symm⟩
    · rw [if_neg hs] at h ⊢; exact look_sieve h
theorem sieve_sat {E : Env} {a : Act} {w : World} (hs : Sat E a w) (w' : World) : Sat (sieve E) a w' := fun t f hf => by
  obtain ⟨g, hg, rfl⟩ := look_sieve hf
  split
  · rename_i hk; exact keeps_den hk (hs t g hg)
  · exact any_den _ _

section
variable {P : Program} {ops : Array Oper} {Q : Exit → Act → World → Prop} {n : Nat} {I : World → Prop} {k i : Nat} {E : Env} {o : Oper}

/-- An operation that turns the call's own memory: behind it what is exact, and what came in, is known as before. -/
theorem Plan.eff {F : Fa} {d : Bool} (ho : ops[i]? = some o) (hg : wantB ops E o = some true) (hd : ∀ d, o.dst = some d → d < n)
    (h : ∀ a w, I w → Sat E a w → (∀ x, x ∈ o.op.operands → ∀ f, opF E x = some f → f.den w (a.eval x)) →
      ∃ (v : Value) (w' : World), ((execOp a.eval o).run P w = .ok (.value v) w' ∨ ((execOp a.eval o).run P w = .ok .skip w' ∧ v = undef)) ∧ I w' ∧ F.den w' v)
    (hq : d = false ∨ barB ops i = true)
    (hp : Plan P ops Q n I d k (i + 1) (setE o.dst F (sieve E))) : Plan P ops Q n I d (k + 1) i E := by
  refine .inr ⟨hq, ?_⟩
  intro a w hI hsh hs
  obtain ⟨v, w', hr, hI', hF⟩ := h a w hI hs (fun x hx f hf => opF_den ho hx (fun t _ f hf => hs t f hf) hf)
  unfold wpOp
  simp only [ho, wantB_spec ho hsh (fun t _ f hf => hs t f hf) hg, if_true]
  refine .inl ?_
  unfold Oper.wp
  have fin : ∃ E', Plan P ops Q n I d k (i + 1) E' ∧ I w' ∧ Sh n (a.put o.dst v) ∧ Sat E' (a.put o.dst v) w' := by
    refine ⟨_, hp, hI', hsh.put _ _, ?_⟩
    intro t f hf
    cases hdst : o.dst with
    | none => rw [hdst] at hf; exact sieve_sat hs w' t f hf
    | some d =>
      rw [hdst] at hf
      simp only [setE, look] at hf
      by_cases hdt : d = t
      · subst hdt
        simp only [if_true, Option.some.injEq] at hf
        subst hf
        rw [slot_put_same hsh (hd d hdst)]
        exact hF
      · rw [if_neg hdt] at hf
        rw [slot_put_ne a hdt]
        exact sieve_sat hs w' t f hf
  rcases hr with hr | ⟨hr, rfl⟩ <;> rw [hr] <;> exact fin

/-- append(own, row...) -/
theorem Plan.append {x y : Operand} {t e : TypeId} {z : Value} {sz bytes B : Nat} {xs news : List Value} {g f : Fa} {d : Bool} (ho : ops[i]? = some o) (hop : o.op = .call { callee := .builtin .append, args := #[x, y], argTypes := #[t, t] })
    (hg : wantB ops E o = some true) (hx : opF E x = some f) (hfs : Sub I f (own B e sz xs)) (hy : opF E y = some g) (hs : Sub I g (row sz news)) (he : Elt P t e z sz bytes) (hd : ∀ d, o.dst = some d → d < n)
    (hG : ∀ w w' r, I w → w.grownBy w' r → (∀ b, r = some b → B ≤ b) → I w')
    (h1 : ∀ u ∈ news, u.oneCell' = true) (hlim : (xs.length + news.length) * bytes ≤ 140737488355328 * sz)
    (h : Plan P ops Q n I d k (i + 1) (setE o.dst (own B e sz (xs ++ news)) (sieve E))) (hq : d = false ∨ barB ops i = true := by first | exact .inl rfl | exact .inr (by kernel_rfl)) : Plan P ops Q n I d (k + 1) i E :=
  Plan.eff ho hg hd (fun a w hI _ hs' => by
    have e1 := hfs w _ hI (hs' x (by simp [hop, Op.operands, Call.operands]) _ hx)
    have e2 := hs w _ hI (hs' y (by simp [hop, Op.operands, Call.operands]) _ hy)
    simp only [own, row, rowP, Fa.den] at e1 e2
    obtain ⟨v', w', hr, h2, h3⟩ := run_append_rows (ty := o.type) he e1 e2 h1 hlim
    refine ⟨v', w', .inl ?_, hG w w' _ hI h3 ?_, by simpa only [own, Fa.den] using h2⟩
    · simp only [execOp, hop, resolve, invoke, builtin, List.map_toArray, List.map_cons, List.map_nil, Sem.run_bind, Sem.run_pure, Result.andThen_ok, hr]
    · intro b hb
      obtain ⟨_, m, hm⟩ := e1
      exact (hm.lt b hb).1) hq h

/-- append(own, text...) -/
theorem Plan.appendStr {x y : Operand} {t u e : TypeId} {B : Nat} {xs : List Value} {p : List UInt8} {f : Fa} {d : Bool} (ho : ops[i]? = some o) (hop : o.op = .call { callee := .builtin .append, args := #[x, y], argTypes := #[t, u] })
    (hg : wantB ops E o = some true) (hx : opF E x = some f) (hfs : Sub I f (own B e 1 xs)) (hy : opF E y = some (.ex (str p))) (hu : P.underlying u = some .string) (he : Elt P t e (.int .u8 0) 1 1) (hd : ∀ d, o.dst = some d → d < n)
    (hG : ∀ w w' r, I w → w.grownBy w' r → (∀ b, r = some b → B ≤ b) → I w')
    (hlim : xs.length + p.length ≤ 140737488355328)
    (h : Plan P ops Q n I d k (i + 1) (setE o.dst (own B e 1 (xs ++ bs p)) (sieve E))) (hq : d = false ∨ barB ops i = true := by first | exact .inl rfl | exact .inr (by kernel_rfl)) : Plan P ops Q n I d (k + 1) i E :=
  Plan.eff ho hg hd (fun a w hI _ hs' => by
    have e1 := hfs w _ hI (hs' x (by simp [hop, Op.operands, Call.operands]) _ hx)
    have e2 := hs' y (by simp [hop, Op.operands, Call.operands]) _ hy
    simp only [own, Fa.den, str] at e1 e2
    obtain ⟨inf, hi, hz, hsz, hby⟩ := he.hi
    obtain ⟨hB, m, hm⟩ := id e1
    have hml : m = xs.length := by have := hm.1; omega
    have hps : (ByteArray.mk p.toArray).size = p.length := by simp [ByteArray.size]
    obtain ⟨v', w', hr, h2, h3, _⟩ := Lib.run_append_own_string (P := P) w B t u o.type e inf he.ht hu hi hz hsz hby (a.eval x) m xs hm ⟨p.toArray⟩ (by rw [hps, hml]; simp only [maxLen]; omega) (by rw [hps, hml]; exact hlim) hB
    have hcells : Lib.strCells ⟨p.toArray⟩ = bs p := by simp [Lib.strCells, bs]
    rw [hcells] at h2
    refine ⟨v', w', .inl ?_, hG w w' _ hI h3 ?_, ?_⟩
    · simp only [execOp, hop, resolve, invoke, builtin, List.map_toArray, List.map_cons, List.map_nil, Sem.run_bind, Sem.run_pure, Result.andThen_ok, e2, hr]
    · intro b hb; exact (hm.lt b hb).1
    · simp only [own, Fa.den]; exact ⟨Nat.le_trans hB h3.size, _, h2⟩) hq h

/-- make([]T, 0, c) -/
theorem Plan.make0 {x y : Operand} {t e : TypeId} {z : Value} {sz bytes B c : Nat} {kl kc : IntKind} (ho : ops[i]? = some o) (hop : o.op = .makeSlice t x y)
    (hg : wantB ops E o = some true) (hx : opF E x = some (.ex (.int kl 0))) (hy : opF E y = some (.ex (.int kc c))) (he : Elt P t e z sz bytes) (hB : ∀ w, I w → B ≤ w.heap.size)
    (hlim : bytes * c ≤ 281474976710656) {d : Bool}
    (h : Plan P ops Q n I d k (i + 1) (setE o.dst (own B e sz []) E)) : Plan P ops Q n I d (k + 1) i E :=
  Plan.step ho (Step.run ho hg fun a w hI hs => by
    have e1 := hs x (by simp [hop, Op.operands]) _ hx
    have e2 := hs y (by simp [hop, Op.operands]) _ hy
    simp only [Fa.den] at e1 e2
    obtain ⟨inf, hi, hz, hsz, hby⟩ := he.hi
    obtain ⟨w', hr, h1, h2⟩ := run_make_own (P := P) w B t e inf z sz he.ht hi hz hsz kl kc c (by rw [hby]; exact hlim) (by
      have := he.hb
      have h3 : c ≤ bytes * c := Nat.le_mul_of_pos_left _ this
      simp only [maxLen]; omega) (hB w hI)
    refine ⟨.slice (some ⟨w.heap.size, 0, none⟩) 0 c, w', ?_, ⟨h2.os, h2.tape, h2.output, h2.size, fun j hj => h2.block j hj (by simp)⟩, ?_⟩
    rotate_left
    · simp only [own, Fa.den]
      exact ⟨Nat.le_trans (hB w hI) h2.size, 0, h1⟩
    · simp only [execOp, hop, e1, e2, Sem.run_bind, hr, Result.andThen_ok, Sem.run_pure]) h

/-- make([]T, c) -/
theorem Plan.makeN {x y : Operand} {t e : TypeId} {z : Value} {sz bytes B c : Nat} {kl kc : IntKind} (ho : ops[i]? = some o) (hop : o.op = .makeSlice t x y)
    (hg : wantB ops E o = some true) (hx : opF E x = some (.ex (.int kl c))) (hy : opF E y = some (.ex (.int kc c))) (he : Elt P t e z sz bytes) (hB : ∀ w, I w → B ≤ w.heap.size)
    (hlim : bytes * c ≤ 281474976710656) {d : Bool}
    (h : Plan P ops Q n I d k (i + 1) (setE o.dst (own B e sz (madeCells z.cells (c * sz)).toList) E)) : Plan P ops Q n I d (k + 1) i E :=
  Plan.step ho (Step.run ho hg fun a w hI hs => by
    have e1 := hs x (by simp [hop, Op.operands]) _ hx
    have e2 := hs y (by simp [hop, Op.operands]) _ hy
    simp only [Fa.den] at e1 e2
    obtain ⟨inf, hi, hz, hsz, hby⟩ := he.hi
    obtain ⟨w', hr, h1, h2⟩ := run_make_full (P := P) w B t e inf z sz he.ht hi hz hsz kl kc c (by rw [hby]; exact hlim) (by
      have := he.hb
      have h3 : c ≤ bytes * c := Nat.le_mul_of_pos_left _ this
      simp only [maxLen]; omega) (hB w hI)
    refine ⟨.slice (some ⟨w.heap.size, 0, none⟩) c c, w', ?_, ⟨h2.os, h2.tape, h2.output, h2.size, fun j hj => h2.block j hj (by simp)⟩, ?_⟩
    rotate_left
    · simp only [own, Fa.den]
      exact ⟨Nat.le_trans (hB w hI) h2.size, c, h1⟩
    · simp only [execOp, hop, e1, e2, Sem.run_bind, hr, Result.andThen_ok, Sem.run_pure]) h

end

/-! ### Literals -/
theorem foldl_set (vs : List Value) : ∀ (off k : Nat) (cs : Array Value), off + k + vs.length ≤ cs.size →
    ((vs.zipIdx k).foldl (fun cs (p : Value × Nat) => cs.setIfInBounds (off + p.2) p.1) cs).toList = cs.toList.take (off + k) ++ vs ++ cs.toList.drop (off + k + vs.length) := by
  induction vs with
  | nil => intro off k cs _; simp
  | cons v vs ih =>
    intro off k cs h
    simp only [List.length_cons] at h
    simp only [List.zipIdx_cons, List.foldl_cons]
    rw [ih off (k + 1) _ (by simp; omega)]
    have hk : off + k < cs.toList.length := by simp; omega
    have e1 : (cs.setIfInBounds (off + k) v).toList = cs.toList.set (off + k) v := by simp
    rw [e1]
    have e2 : (cs.toList.set (off + k) v).take (off + (k + 1)) = cs.toList.take (off + k) ++ [v] := by
      rw [show off + (k + 1) = off + k + 1 by omega, List.take_succ_eq_append_getElem (by simpa using hk), List.take_set, List.set_eq_of_length_le (by simp; omega)]
      simp
    have e3 : (cs.toList.set (off + k) v).drop (off + (k + 1) + vs.length) = cs.toList.drop (off + k + (v :: vs).length) := by
      rw [List.drop_set_of_lt (by omega)]
      congr 1
      simp; omega
    rw [e2, e3]
    simp

def numbered : List Value → Nat → List (Nat × Value)
  | [], _ => []
  | v :: vs, m => (m, v) :: numbered vs (m + 1)
def flat (vs : List Value) : List Value := vs.flatMap fun v => v.cells.toList

theorem flat_length {vs : List Value} {sz : Nat} (h : ∀ v ∈ vs, v.cells.size = sz) : (flat vs).length = vs.length * sz := by
  induction vs with
  | nil => simp [flat]
  | cons v vs ih =>
    have h1 := h v List.mem_cons_self
    have h2 := ih (fun u hu => h u (List.mem_cons_of_mem _ hu))
    simp only [flat, List.flatMap_cons, List.length_append, List.length_cons, Nat.add_mul, Nat.one_mul] at h2 ⊢
    rw [h2, Array.length_toList, h1]; omega

theorem fill_numbered {sz : Nat} (vs : List Value) : ∀ (m : Nat) (cs : Array Value), (∀ v ∈ vs, v.cells.size = sz) → (m + vs.length) * sz ≤ cs.size →
    ∃ cs', Instr.fill (fun i => some (i * sz, sz)) cs (numbered vs m) = some cs' ∧ cs'.toList = cs.toList.take (m * sz) ++ flat vs ++ cs.toList.drop ((m + vs.length) * sz) := by
  induction vs with
  | nil => intro m cs _ _; exact ⟨cs, rfl, by simp [flat]⟩
  | cons v vs ih =>
    intro m cs hs hl
    have hv := hs v List.mem_cons_self
    have hvs : ∀ u ∈ vs, u.cells.size = sz := fun u hu => hs u (List.mem_cons_of_mem _ hu)
    simp only [List.length_cons] at hl
    have e0 : (m + (vs.length + 1)) * sz = m * sz + sz + vs.length * sz := by rw [Nat.add_mul, Nat.add_mul]; omega
    have hfs := foldl_set v.cells.toList (m * sz) 0 cs (by rw [Array.length_toList, hv]; omega)
    simp only [Nat.add_zero, Array.length_toList, hv] at hfs
    have hfold : (v.cells.zipIdx.foldl (fun cs (x : Value × Nat) => cs.setIfInBounds (m * sz + x.2) x.1) cs).toList = cs.toList.take (m * sz) ++ v.cells.toList ++ cs.toList.drop (m * sz + sz) := by
      rw [← hfs, ← Array.foldl_toList, Array.toList_zipIdx]
    obtain ⟨c1, hc1⟩ : ∃ c1, c1 = v.cells.zipIdx.foldl (fun cs (x : Value × Nat) => cs.setIfInBounds (m * sz + x.2) x.1) cs := ⟨_, rfl⟩
    rw [← hc1] at hfold
    have hsize : c1.size = cs.size := by
      have := congrArg List.length hfold
      simp only [Array.length_toList, List.length_append, List.length_take, List.length_drop, hv] at this
      omega
    obtain ⟨cs', h1, h2⟩ := ih (m + 1) c1 hvs (by rw [hsize, show m + 1 + vs.length = m + (vs.length + 1) by omega]; exact hl)
    refine ⟨cs', ?_, ?_⟩
    · simp only [numbered, Instr.fill, hv]
      rw [if_neg (by simp; omega)]
      rw [← hc1]; exact h1
    · rw [h2, hfold]
      have e1 : ((m + 1) * sz) = m * sz + sz := by rw [Nat.add_mul]; omega
      have hlen : (cs.toList.take (m * sz) ++ v.cells.toList).length = m * sz + sz := by
        simp only [List.length_append, List.length_take, Array.length_toList, hv]; omega
      rw [e1]
      have e2 : (cs.toList.take (m * sz) ++ v.cells.toList ++ cs.toList.drop (m * sz + sz)).take (m * sz + sz) = cs.toList.take (m * sz) ++ v.cells.toList := List.take_left' hlen
      have e3 : (cs.toList.take (m * sz) ++ v.cells.toList ++ cs.toList.drop (m * sz + sz)).drop ((m + 1 + vs.length) * sz) = cs.toList.drop ((m + (v :: vs).length) * sz) := by
        have e4 : (m + 1 + vs.length) * sz = (m * sz + sz) + vs.length * sz := by rw [Nat.add_mul, Nat.add_mul, Nat.one_mul]
        have e5 : (m + (v :: vs).length) * sz = (m * sz + sz) + vs.length * sz := by rw [List.length_cons, Nat.add_mul, Nat.add_mul, Nat.one_mul]; omega
        rw [e4, e5, ← hlen, ← List.drop_drop, List.drop_left, hlen, List.drop_drop]
      rw [e2, e3]
      simp [flat]

/-- The values of a literal's parts, given in order. -/
def litVals (E : Env) : List (Nat × Operand) → Nat → Option (List Value)
  | [], _ => some []
  | (j, x) :: r, m => if j = m then (match opF E x with
      | some (.ex v) => (match litVals E r (m + 1) with
        | some vs => some (v :: vs)
        | none => none)
      | _ => none) else none

theorem litVals_spec {E : Env} {a : Act} {w : World} : ∀ {ps : List (Nat × Operand)} {m : Nat} {vs : List Value}, litVals E ps m = some vs → (∀ p, p ∈ ps → ∀ f, opF E p.2 = some f → f.den w (a.eval p.2)) →
    ps.map (fun p => (p.1, a.eval p.2)) = numbered vs m
  | [], m, vs, h, _ => by simp only [litVals, Option.some.injEq] at h; subst h; rfl
  | (j, x) :: r, m, vs, h, hs => by
    simp only [litVals] at h
    by_cases hj : j = m
    · subst hj
      simp only [if_true] at h
      cases hx : opF E x with
      | none => rw [hx] at h; cases h
      | some f =>
        rw [hx] at h
        cases f with
        | ex v =>
          simp only at h
          cases hr : litVals E r (j + 1) with
          | none => rw [hr] at h; cases h
          | some us =>
            rw [hr] at h
            simp only [Option.some.injEq] at h
            subst h
            have e1 := hs (j, x) List.mem_cons_self _ hx
            simp only [Fa.den] at e1
            simp only [List.map_cons, numbered, e1]
            rw [litVals_spec hr fun p hp => hs p (List.mem_cons_of_mem _ hp)]
        | is p => cases h
        | tup l => cases h
        | old w0 g => cases h
    · rw [if_neg hj] at h; cases h

section
variable {P : Program} {ops : Array Oper} {Q : Exit → Act → World → Prop} {n : Nat} {I : World → Prop} {k i : Nat} {E : Env} {o : Oper} {d : Bool}

theorem lit_run {t e : TypeId} {z : Value} {sz bytes B m : Nat} {ps : List (Nat × Operand)} {vs : List Value} {a : Act} {w : World} (hop : o.op = .buildSlice t m ps.toArray)
    (he : Elt P t e z sz bytes) (hv : litVals E ps 0 = some vs) (hs : ∀ x, x ∈ o.op.operands → ∀ f, opF E x = some f → f.den w (a.eval x)) (hB : B ≤ w.heap.size)
    (hm : vs.length = m) (hsz : ∀ v ∈ vs, v.cells.size = sz) (hlim : m * sz ≤ 16777216) : ∃ v w', (execOp a.eval o).run P w = .ok (.value v) w' ∧ Below w.heap.size w w' ∧ ownH B e sz (flat vs) w' v := by
    obtain ⟨inf, hi, hz, hs1, hby⟩ := he.hi
    have hps := litVals_spec (a := a) (w := w) hv (fun p hp f hf => hs p.2 (by
      simp only [hop, Op.operands, List.mem_toArray, List.mem_map]
      exact ⟨p, hp, rfl⟩) f hf)
    have hpos := he.hs
    obtain ⟨cs0, hcs0⟩ : ∃ cs0 : Array Value, cs0 = (Array.range (m * sz)).map (fun j => (if m * sz = 0 then (#[] : Array Value) else z.cells)[j % (if m * sz = 0 then (#[] : Array Value) else z.cells).size]!) := ⟨_, rfl⟩
    have hsize0 : cs0.size = m * sz := by rw [hcs0]; simp
    obtain ⟨cs', hf, hl⟩ := fill_numbered (sz := sz) vs 0 cs0 hsz (by rw [hsize0, Nat.zero_add, hm]; exact Nat.le_refl _)
    have hl' : cs'.toList = flat vs := by
      rw [hl]
      simp only [Nat.zero_mul, List.take_zero, List.nil_append, Nat.zero_add, hm]
      rw [List.drop_of_length_le (by rw [Array.length_toList, hsize0]; exact Nat.le_refl _), List.append_nil]
    have hsz' : cs'.size = m * sz := by rw [← Array.length_toList, hl', flat_length hsz, hm]
    refine ⟨.slice (some ⟨w.heap.size, 0, none⟩) m m, w.alloc (.cells cs' e), ?_, ((Below.refl _ _).alloc (Nat.le_refl _) _), ?_⟩
    · have hrun : (Instr.buildSlice t m (numbered vs 0).toArray).run P w = .ok (.slice (some ⟨w.heap.size, 0, none⟩) m m) (w.alloc (.cells cs' e)) := by
        unfold Instr.buildSlice
        have hle : ¬ (m * sz > 2 ^ 24) := by omega
        by_cases h0 : m * sz = 0
        · simp only [h0, if_true] at hcs0
          simp [run_underlying he.ht, sizeOf, typeInfo, hi, hs1, h0, newRow]
          rw [hcs0] at hf
          simp at hf
          simp [hf]
        · simp only [h0, if_false] at hcs0
          have hf' := hf
          rw [hcs0] at hf'
          simp [run_underlying he.ht, sizeOf, typeInfo, hi, hs1, hle, h0, newRow, zeroValue, hz]
          rw [hf']
          simp
      have hmap : (ps.toArray.map fun (p : Nat × Operand) => (p.1, a.eval p.2)) = (numbered vs 0).toArray := by rw [← hps]; simp
      simp only [execOp, hop]
      rw [show (ps.toArray.map fun (x : Nat × Operand) => match x with | (i, x) => (i, a.eval x)) = (numbered vs 0).toArray from hmap]
      simp only [Sem.run_bind, hrun, Result.andThen_ok, Sem.run_pure]
    · refine ⟨Nat.le_trans (hB) (by simp), m, ?_⟩
      have := World.ownsRow_lit (base := B) (e := e) (size := sz) w cs' m (hB) (by simp only [maxLen]; have : m ≤ m * sz := Nat.le_mul_of_pos_right _ hpos; omega) hsz'
      rw [hl'] at this
      exact this
theorem Plan.lit {t e : TypeId} {z : Value} {sz bytes B m : Nat} {ps : List (Nat × Operand)} {vs : List Value} (ho : ops[i]? = some o) (hop : o.op = .buildSlice t m ps.toArray)
    (hg : wantB ops E o = some true) (he : Elt P t e z sz bytes) (hv : litVals E ps 0 = some vs) (hB : ∀ w, I w → B ≤ w.heap.size)
    (hm : vs.length = m) (hsz : ∀ v ∈ vs, v.cells.size = sz) (hlim : m * sz ≤ 16777216)
    (h : Plan P ops Q n I d k (i + 1) (setE o.dst (own B e sz (flat vs)) E)) : Plan P ops Q n I d (k + 1) i E :=
  Plan.step ho (Step.run ho hg fun a w hI hs => by
    obtain ⟨v, w', h1, h2, h3⟩ := lit_run (B := B) (a := a) (w := w) hop he hv hs (hB w hI) hm hsz hlim
    exact ⟨v, w', h1, h2, by simpa only [own, Fa.den] using h3⟩) h

/-- A number told otherwise. -/
theorem Plan.re {t : Nat} {v v' : Value} {E : Env} (hv : v = v') (h : Plan P ops Q n I d k i ((t, .ex v') :: E)) : Plan P ops Q n I d k i ((t, .ex v) :: E) := hv ▸ h
theorem Plan.int {t : Nat} {kd : IntKind} {x y : Int} {E : Env} (hv : x = y) (h : Plan P ops Q n I d k i ((t, .ex (.int kd y)) :: E)) : Plan P ops Q n I d k i ((t, .ex (.int kd x)) :: E) := hv ▸ h
theorem Plan.boolv {t : Nat} {x y : Bool} {E : Env} (hv : x = y) (h : Plan P ops Q n I d k i ((t, .ex (.bool y)) :: E)) : Plan P ops Q n I d k i ((t, .ex (.bool x)) :: E) := hv ▸ h
end
end Go.Free
