/-
  Laid together: FreeEff, FreeMem, FreeSeat, CrcPlain, CrcFns, CrcFns2, CrcRef, CrcLaws, CrcRef2, FreeMore.
-/
import Derived.Test.YtepgphflnelpoaaAofA
import Derived.KernelRfl
import Derived.Test.YtepgphflnelpoaaRows
import Derived.IntWalk
import Derived.Laws.BitsAllLaws
import Derived.Laws.Bits64

section
set_option linter.unusedSimpArgs false
set_option linter.unusedVariables false
set_option maxRecDepth 20000
namespace Go.Free
open Go.RowKit

/-- What an element type is: its slice type, its zero, its cells and bytes. -/
structure Elt (P : Program) (t e : TypeId) (z : Value) (sz bytes : Nat) : Prop where
  ht : P.underlying t = some (.slice e)
  hi : ∃ i, P.info? e = some i ∧ i.zero = some z ∧ i.size = sz ∧ i.bytes = bytes
  hz : z.cells.size = sz
  hs : 0 < sz
  hb : 0 < bytes

theorem Elt.mk' {P : Program} {t e : TypeId} {z : Value} {sz bytes : Nat} (ht : P.underlying t = some (.slice e)) (hi : (P.info? e).map (fun i => (i.zero, i.size, i.bytes)) = some (some z, sz, bytes)) (hz : z.cells.size = sz) (hs : 0 < sz) (hb : 0 < bytes) : Elt P t e z sz bytes :=
  ⟨ht, by obtain ⟨i, h1, h2, h3, h4⟩ := info_parts hi; exact ⟨i, h1, h2, h3, h4⟩, hz, hs, hb⟩

theorem run_append_rows {P : Program} {w : World} {t ty e : TypeId} {z : Value} {sz bytes B : Nat} {xs news : List Value} {v y : Value} (he : Elt P t e z sz bytes)
    (hown : ownH B e sz xs w v) (hy : rowH sz news w y) (h1 : ∀ u ∈ news, u.oneCell' = true) (hlim : (xs.length + news.length) * bytes ≤ 140737488355328 * sz) :
    ∃ v' w', (Builtin.append_ #[t, t] ty #[v, y]).run P w = .ok v' w' ∧ ownH B e sz (xs ++ news) w' v' ∧ w.grownBy w' v.ownBlock := by
  obtain ⟨i, hi, hz, hsz, hby⟩ := he.hi
  obtain ⟨hB, n, hn⟩ := hown
  obtain ⟨A, m, c, rfl, hmc, hc, hl, hnil, hcell⟩ := hy
  have hpos := he.hs
  have hnm : (n + m) * bytes ≤ 140737488355328 := by
    have e1 : (xs.length + news.length) = (n + m) * sz := by rw [hn.1, hl, Nat.add_mul]
    rw [e1, Nat.mul_assoc, Nat.mul_comm sz bytes, ← Nat.mul_assoc] at hlim
    exact Nat.le_of_mul_le_mul_right hlim hpos
  have h63 : n + m ≤ maxLen := by
    have := he.hb
    have h2 : n + m ≤ (n + m) * bytes := Nat.le_mul_of_pos_right _ this
    simp only [maxLen]; omega
  cases A with
  | none =>
    obtain rfl := hnil rfl
    obtain rfl : m = 0 := by omega
    have hnews : news = [] := List.eq_nil_of_length_eq_zero (by simpa using hl)
    subst hnews
    refine ⟨v, w, run_append_owned_none w B t ty e i sz he.ht hi v n xs hn, ⟨hB, n, by simpa using hn⟩, ⟨rfl, rfl, rfl, Nat.le_refl _, fun _ _ _ => rfl⟩⟩
  | some ad =>
    obtain ⟨v', w', hr, h2, h3, _⟩ := run_append_own (P := P) w B t ty e i z sz bytes he.ht hi hz hsz hby he.hz hpos v n xs hn ad m c news hl (fun j u hu => by
      obtain ⟨ad', hA, hc⟩ := hcell j u hu
      cases hA; exact hc) h1 h63 hnm hB
    exact ⟨v', w', hr, ⟨Nat.le_trans hB h3.size, _, h2⟩, h3⟩

/-! ### What stays known when memory of the call's own is turned -/
def keeps : Fa → Bool
  | .ex _ => true
  | .old _ _ => true
  | _ => false
def sieve : Env → Env
  | [] => []
  | (t, f) :: r => (t, if keeps f then f else Fa.any) :: sieve r

theorem keeps_den {f : Fa} (h : keeps f = true) {w w' : World} {v : Value} (hd : f.den w v) : f.den w' v := by
  cases f with
  | ex u => exact hd
  | old w0 g => simpa only [Fa.den] using hd
  | is p => cases h
  | tup l => cases h
theorem any_den (w : World) (v : Value) : Fa.any.den w v := by simp [Fa.any, Fa.den]
theorem look_sieve : ∀ {E : Env} {t : Nat} {f : Fa}, look (sieve E) t = some f → ∃ g, look E t = some g ∧ f = if keeps g then g else Fa.any
  | [], t, f, h => by simp [sieve, look] at h
  | (s, g) :: r, t, f, h => by
    simp only [sieve, look] at h ⊢
    by_cases hs : s = t
    · simp only [hs, if_true, Option.some.injEq] at h ⊢; exact ⟨g, rfl, h.symm⟩
    · rw [if_neg hs] at h ⊢; exact look_sieve h
theorem sieve_sat {E : Env} {a : Act} {w : World} (hs : Sat E a w) (w' : World) : Sat (sieve E) a w' := fun t f hf => by
  obtain ⟨g, hg, rfl⟩ := look_sieve hf
  split
  · rename_i hk; exact keeps_den hk (hs t g hg)
  · exact any_den _ _

section
variable {P : Program} {ops : Array Oper} {Q : Exit → Act → World → Prop} {n : Nat} {I : World → Prop} {k i : Nat} {E : Env} {o : Oper}

/-- An operation that turns the call's own memory: behind it what is exact, and what came in, is known as before. -/
theorem Plan.eff {F : Fa} {d : Bool} (ho : ops[i]? = some o) (hg : wantB ops E o = some true) (hd : ∀ d, o.dst = some d → d < n)
    (h : ∀ a w, I w → Sat E a w → (∀ x, x ∈ o.op.operands → ∀ f, opF E x = some f → f.den w (a.eval x)) →
      ∃ (v : Value) (w' : World), ((execOp a.eval o).run P w = .ok (.value v) w' ∨ ((execOp a.eval o).run P w = .ok .skip w' ∧ v = undef)) ∧ I w' ∧ F.den w' v)
    (hq : d = false ∨ barB ops i = true)
    (hp : Plan P ops Q n I d k (i + 1) (setE o.dst F (sieve E))) : Plan P ops Q n I d (k + 1) i E := by
  refine .inr ⟨hq, ?_⟩
  intro a w hI hsh hs
  obtain ⟨v, w', hr, hI', hF⟩ := h a w hI hs (fun x hx f hf => opF_den ho hx (fun t _ f hf => hs t f hf) hf)
  unfold wpOp
  simp only [ho, wantB_spec ho hsh (fun t _ f hf => hs t f hf) hg, if_true]
  refine .inl ?_
  unfold Oper.wp
  have fin : ∃ E', Plan P ops Q n I d k (i + 1) E' ∧ I w' ∧ Sh n (a.put o.dst v) ∧ Sat E' (a.put o.dst v) w' := by
    refine ⟨_, hp, hI', hsh.put _ _, ?_⟩
    intro t f hf
    cases hdst : o.dst with
    | none => rw [hdst] at hf; exact sieve_sat hs w' t f hf
    | some d =>
      rw [hdst] at hf
      simp only [setE, look] at hf
      by_cases hdt : d = t
      · subst hdt
        simp only [if_true, Option.some.injEq] at hf
        subst hf
        rw [slot_put_same hsh (hd d hdst)]
        exact hF
      · rw [if_neg hdt] at hf
        rw [slot_put_ne a hdt]
        exact sieve_sat hs w' t f hf
  rcases hr with hr | ⟨hr, rfl⟩ <;> rw [hr] <;> exact fin

/-- append(own, row...) -/
theorem Plan.append {x y : Operand} {t e : TypeId} {z : Value} {sz bytes B : Nat} {xs news : List Value} {g f : Fa} {d : Bool} (ho : ops[i]? = some o) (hop : o.op = .call { callee := .builtin .append, args := #[x, y], argTypes := #[t, t] })
    (hg : wantB ops E o = some true) (hx : opF E x = some f) (hfs : Sub I f (own B e sz xs)) (hy : opF E y = some g) (hs : Sub I g (row sz news)) (he : Elt P t e z sz bytes) (hd : ∀ d, o.dst = some d → d < n)
    (hG : ∀ w w' r, I w → w.grownBy w' r → (∀ b, r = some b → B ≤ b) → I w')
    (h1 : ∀ u ∈ news, u.oneCell' = true) (hlim : (xs.length + news.length) * bytes ≤ 140737488355328 * sz)
    (h : Plan P ops Q n I d k (i + 1) (setE o.dst (own B e sz (xs ++ news)) (sieve E))) (hq : d = false ∨ barB ops i = true := by first | exact .inl rfl | exact .inr (by kernel_rfl)) : Plan P ops Q n I d (k + 1) i E :=
  Plan.eff ho hg hd (fun a w hI _ hs' => by
    have e1 := hfs w _ hI (hs' x (by simp [hop, Op.operands, Call.operands]) _ hx)
    have e2 := hs w _ hI (hs' y (by simp [hop, Op.operands, Call.operands]) _ hy)
    simp only [own, row, rowP, Fa.den] at e1 e2
    obtain ⟨v', w', hr, h2, h3⟩ := run_append_rows (ty := o.type) he e1 e2 h1 hlim
    refine ⟨v', w', .inl ?_, hG w w' _ hI h3 ?_, by simpa only [own, Fa.den] using h2⟩
    · simp only [execOp, hop, resolve, invoke, builtin, List.map_toArray, List.map_cons, List.map_nil, Sem.run_bind, Sem.run_pure, Result.andThen_ok, hr]
    · intro b hb
      obtain ⟨_, m, hm⟩ := e1
      exact (hm.lt b hb).1) hq h

/-- append(own, text...) -/
theorem Plan.appendStr {x y : Operand} {t u e : TypeId} {B : Nat} {xs : List Value} {p : List UInt8} {f : Fa} {d : Bool} (ho : ops[i]? = some o) (hop : o.op = .call { callee := .builtin .append, args := #[x, y], argTypes := #[t, u] })
    (hg : wantB ops E o = some true) (hx : opF E x = some f) (hfs : Sub I f (own B e 1 xs)) (hy : opF E y = some (.ex (str p))) (hu : P.underlying u = some .string) (he : Elt P t e (.int .u8 0) 1 1) (hd : ∀ d, o.dst = some d → d < n)
    (hG : ∀ w w' r, I w → w.grownBy w' r → (∀ b, r = some b → B ≤ b) → I w')
    (hlim : xs.length + p.length ≤ 140737488355328)
    (h : Plan P ops Q n I d k (i + 1) (setE o.dst (own B e 1 (xs ++ bs p)) (sieve E))) (hq : d = false ∨ barB ops i = true := by first | exact .inl rfl | exact .inr (by kernel_rfl)) : Plan P ops Q n I d (k + 1) i E :=
  Plan.eff ho hg hd (fun a w hI _ hs' => by
    have e1 := hfs w _ hI (hs' x (by simp [hop, Op.operands, Call.operands]) _ hx)
    have e2 := hs' y (by simp [hop, Op.operands, Call.operands]) _ hy
    simp only [own, Fa.den, str] at e1 e2
    obtain ⟨inf, hi, hz, hsz, hby⟩ := he.hi
    obtain ⟨hB, m, hm⟩ := id e1
    have hml : m = xs.length := by have := hm.1; omega
    have hps : (ByteArray.mk p.toArray).size = p.length := by simp [ByteArray.size]
    obtain ⟨v', w', hr, h2, h3, _⟩ := Lib.run_append_own_string (P := P) w B t u o.type e inf he.ht hu hi hz hsz hby (a.eval x) m xs hm ⟨p.toArray⟩ (by rw [hps, hml]; simp only [maxLen]; omega) (by rw [hps, hml]; exact hlim) hB
    have hcells : Lib.strCells ⟨p.toArray⟩ = bs p := by simp [Lib.strCells, bs]
    rw [hcells] at h2
    refine ⟨v', w', .inl ?_, hG w w' _ hI h3 ?_, ?_⟩
    · simp only [execOp, hop, resolve, invoke, builtin, List.map_toArray, List.map_cons, List.map_nil, Sem.run_bind, Sem.run_pure, Result.andThen_ok, e2, hr]
    · intro b hb; exact (hm.lt b hb).1
    · simp only [own, Fa.den]; exact ⟨Nat.le_trans hB h3.size, _, h2⟩) hq h

/-- make([]T, 0, c) -/
theorem Plan.make0 {x y : Operand} {t e : TypeId} {z : Value} {sz bytes B c : Nat} {kl kc : IntKind} (ho : ops[i]? = some o) (hop : o.op = .makeSlice t x y)
    (hg : wantB ops E o = some true) (hx : opF E x = some (.ex (.int kl 0))) (hy : opF E y = some (.ex (.int kc c))) (he : Elt P t e z sz bytes) (hB : ∀ w, I w → B ≤ w.heap.size)
    (hlim : bytes * c ≤ 281474976710656) {d : Bool}
    (h : Plan P ops Q n I d k (i + 1) (setE o.dst (own B e sz []) E)) : Plan P ops Q n I d (k + 1) i E :=
  Plan.step ho (Step.run ho hg fun a w hI hs => by
    have e1 := hs x (by simp [hop, Op.operands]) _ hx
    have e2 := hs y (by simp [hop, Op.operands]) _ hy
    simp only [Fa.den] at e1 e2
    obtain ⟨inf, hi, hz, hsz, hby⟩ := he.hi
    obtain ⟨w', hr, h1, h2⟩ := run_make_own (P := P) w B t e inf z sz he.ht hi hz hsz kl kc c (by rw [hby]; exact hlim) (by
      have := he.hb
      have h3 : c ≤ bytes * c := Nat.le_mul_of_pos_left _ this
      simp only [maxLen]; omega) (hB w hI)
    refine ⟨.slice (some ⟨w.heap.size, 0, none⟩) 0 c, w', ?_, ⟨h2.os, h2.tape, h2.output, h2.size, fun j hj => h2.block j hj (by simp)⟩, ?_⟩
    rotate_left
    · simp only [own, Fa.den]
      exact ⟨Nat.le_trans (hB w hI) h2.size, 0, h1⟩
    · simp only [execOp, hop, e1, e2, Sem.run_bind, hr, Result.andThen_ok, Sem.run_pure]) h

/-- make([]T, c) -/
theorem Plan.makeN {x y : Operand} {t e : TypeId} {z : Value} {sz bytes B c : Nat} {kl kc : IntKind} (ho : ops[i]? = some o) (hop : o.op = .makeSlice t x y)
    (hg : wantB ops E o = some true) (hx : opF E x = some (.ex (.int kl c))) (hy : opF E y = some (.ex (.int kc c))) (he : Elt P t e z sz bytes) (hB : ∀ w, I w → B ≤ w.heap.size)
    (hlim : bytes * c ≤ 281474976710656) {d : Bool}
    (h : Plan P ops Q n I d k (i + 1) (setE o.dst (own B e sz (madeCells z.cells (c * sz)).toList) E)) : Plan P ops Q n I d (k + 1) i E :=
  Plan.step ho (Step.run ho hg fun a w hI hs => by
    have e1 := hs x (by simp [hop, Op.operands]) _ hx
    have e2 := hs y (by simp [hop, Op.operands]) _ hy
    simp only [Fa.den] at e1 e2
    obtain ⟨inf, hi, hz, hsz, hby⟩ := he.hi
    obtain ⟨w', hr, h1, h2⟩ := run_make_full (P := P) w B t e inf z sz he.ht hi hz hsz kl kc c (by rw [hby]; exact hlim) (by
      have := he.hb
      have h3 : c ≤ bytes * c := Nat.le_mul_of_pos_left _ this
      simp only [maxLen]; omega) (hB w hI)
    refine ⟨.slice (some ⟨w.heap.size, 0, none⟩) c c, w', ?_, ⟨h2.os, h2.tape, h2.output, h2.size, fun j hj => h2.block j hj (by simp)⟩, ?_⟩
    rotate_left
    · simp only [own, Fa.den]
      exact ⟨Nat.le_trans (hB w hI) h2.size, c, h1⟩
    · simp only [execOp, hop, e1, e2, Sem.run_bind, hr, Result.andThen_ok, Sem.run_pure]) h

end

/-! ### Literals -/
theorem foldl_set (vs : List Value) : ∀ (off k : Nat) (cs : Array Value), off + k + vs.length ≤ cs.size →
    ((vs.zipIdx k).foldl (fun cs (p : Value × Nat) => cs.setIfInBounds (off + p.2) p.1) cs).toList = cs.toList.take (off + k) ++ vs ++ cs.toList.drop (off + k + vs.length) := by
  induction vs with
  | nil => intro off k cs _; simp
  | cons v vs ih =>
    intro off k cs h
    simp only [List.length_cons] at h
    simp only [List.zipIdx_cons, List.foldl_cons]
    rw [ih off (k + 1) _ (by simp; omega)]
    have hk : off + k < cs.toList.length := by simp; omega
    have e1 : (cs.setIfInBounds (off + k) v).toList = cs.toList.set (off + k) v := by simp
    rw [e1]
    have e2 : (cs.toList.set (off + k) v).take (off + (k + 1)) = cs.toList.take (off + k) ++ [v] := by
      rw [show off + (k + 1) = off + k + 1 by omega, List.take_succ_eq_append_getElem (by simpa using hk), List.take_set, List.set_eq_of_length_le (by simp; omega)]
      simp
    have e3 : (cs.toList.set (off + k) v).drop (off + (k + 1) + vs.length) = cs.toList.drop (off + k + (v :: vs).length) := by
      rw [List.drop_set_of_lt (by omega)]
      congr 1
      simp; omega
    rw [e2, e3]
    simp

def numbered : List Value → Nat → List (Nat × Value)
  | [], _ => []
  | v :: vs, m => (m, v) :: numbered vs (m + 1)
def flat (vs : List Value) : List Value := vs.flatMap fun v => v.cells.toList

theorem flat_length {vs : List Value} {sz : Nat} (h : ∀ v ∈ vs, v.cells.size = sz) : (flat vs).length = vs.length * sz := by
  induction vs with
  | nil => simp [flat]
  | cons v vs ih =>
    have h1 := h v List.mem_cons_self
    have h2 := ih (fun u hu => h u (List.mem_cons_of_mem _ hu))
    simp only [flat, List.flatMap_cons, List.length_append, List.length_cons, Nat.add_mul, Nat.one_mul] at h2 ⊢
    rw [h2, Array.length_toList, h1]; omega

theorem fill_numbered {sz : Nat} (vs : List Value) : ∀ (m : Nat) (cs : Array Value), (∀ v ∈ vs, v.cells.size = sz) → (m + vs.length) * sz ≤ cs.size →
    ∃ cs', Instr.fill (fun i => some (i * sz, sz)) cs (numbered vs m) = some cs' ∧ cs'.toList = cs.toList.take (m * sz) ++ flat vs ++ cs.toList.drop ((m + vs.length) * sz) := by
  induction vs with
  | nil => intro m cs _ _; exact ⟨cs, rfl, by simp [flat]⟩
  | cons v vs ih =>
    intro m cs hs hl
    have hv := hs v List.mem_cons_self
    have hvs : ∀ u ∈ vs, u.cells.size = sz := fun u hu => hs u (List.mem_cons_of_mem _ hu)
    simp only [List.length_cons] at hl
    have e0 : (m + (vs.length + 1)) * sz = m * sz + sz + vs.length * sz := by rw [Nat.add_mul, Nat.add_mul]; omega
    have hfs := foldl_set v.cells.toList (m * sz) 0 cs (by rw [Array.length_toList, hv]; omega)
    simp only [Nat.add_zero, Array.length_toList, hv] at hfs
    have hfold : (v.cells.zipIdx.foldl (fun cs (x : Value × Nat) => cs.setIfInBounds (m * sz + x.2) x.1) cs).toList = cs.toList.take (m * sz) ++ v.cells.toList ++ cs.toList.drop (m * sz + sz) := by
      rw [← hfs, ← Array.foldl_toList, Array.toList_zipIdx]
    obtain ⟨c1, hc1⟩ : ∃ c1, c1 = v.cells.zipIdx.foldl (fun cs (x : Value × Nat) => cs.setIfInBounds (m * sz + x.2) x.1) cs := ⟨_, rfl⟩
    rw [← hc1] at hfold
    have hsize : c1.size = cs.size := by
      have := congrArg List.length hfold
      simp only [Array.length_toList, List.length_append, List.length_take, List.length_drop, hv] at this
      omega
    obtain ⟨cs', h1, h2⟩ := ih (m + 1) c1 hvs (by rw [hsize, show m + 1 + vs.length = m + (vs.length + 1) by omega]; exact hl)
    refine ⟨cs', ?_, ?_⟩
    · simp only [numbered, Instr.fill, hv]
      rw [if_neg (by simp; omega)]
      rw [← hc1]; exact h1
    · rw [h2, hfold]
      have e1 : ((m + 1) * sz) = m * sz + sz := by rw [Nat.add_mul]; omega
      have hlen : (cs.toList.take (m * sz) ++ v.cells.toList).length = m * sz + sz := by
        simp only [List.length_append, List.length_take, Array.length_toList, hv]; omega
      rw [e1]
      have e2 : (cs.toList.take (m * sz) ++ v.cells.toList ++ cs.toList.drop (m * sz + sz)).take (m * sz + sz) = cs.toList.take (m * sz) ++ v.cells.toList := List.take_left' hlen
      have e3 : (cs.toList.take (m * sz) ++ v.cells.toList ++ cs.toList.drop (m * sz + sz)).drop ((m + 1 + vs.length) * sz) = cs.toList.drop ((m + (v :: vs).length) * sz) := by
        have e4 : (m + 1 + vs.length) * sz = (m * sz + sz) + vs.length * sz := by rw [Nat.add_mul, Nat.add_mul, Nat.one_mul]
        have e5 : (m + (v :: vs).length) * sz = (m * sz + sz) + vs.length * sz := by rw [List.length_cons, Nat.add_mul, Nat.add_mul, Nat.one_mul]; omega
        rw [e4, e5, ← hlen, ← List.drop_drop, List.drop_left, hlen, List.drop_drop]
      rw [e2, e3]
      simp [flat]

/-- The values of a literal's parts, given in order. -/
def litVals (E : Env) : List (Nat × Operand) → Nat → Option (List Value)
  | [], _ => some []
  | (j, x) :: r, m => if j = m then (match opF E x with
      | some (.ex v) => (match litVals E r (m + 1) with
        | some vs => some (v :: vs)
        | none => none)
      | _ => none) else none

theorem litVals_spec {E : Env} {a : Act} {w : World} : ∀ {ps : List (Nat × Operand)} {m : Nat} {vs : List Value}, litVals E ps m = some vs → (∀ p, p ∈ ps → ∀ f, opF E p.2 = some f → f.den w (a.eval p.2)) →
    ps.map (fun p => (p.1, a.eval p.2)) = numbered vs m
  | [], m, vs, h, _ => by simp only [litVals, Option.some.injEq] at h; subst h; rfl
  | (j, x) :: r, m, vs, h, hs => by
    simp only [litVals] at h
    by_cases hj : j = m
    · subst hj
      simp only [if_true] at h
      cases hx : opF E x with
      | none => rw [hx] at h; cases h
      | some f =>
        rw [hx] at h
        cases f with
        | ex v =>
          simp only at h
          cases hr : litVals E r (j + 1) with
          | none => rw [hr] at h; cases h
          | some us =>
            rw [hr] at h
            simp only [Option.some.injEq] at h
            subst h
            have e1 := hs (j, x) List.mem_cons_self _ hx
            simp only [Fa.den] at e1
            simp only [List.map_cons, numbered, e1]
            rw [litVals_spec hr fun p hp => hs p (List.mem_cons_of_mem _ hp)]
        | is p => cases h
        | tup l => cases h
        | old w0 g => cases h
    · rw [if_neg hj] at h; cases h

section
variable {P : Program} {ops : Array Oper} {Q : Exit → Act → World → Prop} {n : Nat} {I : World → Prop} {k i : Nat} {E : Env} {o : Oper} {d : Bool}

theorem lit_run {t e : TypeId} {z : Value} {sz bytes B m : Nat} {ps : List (Nat × Operand)} {vs : List Value} {a : Act} {w : World} (hop : o.op = .buildSlice t m ps.toArray)
    (he : Elt P t e z sz bytes) (hv : litVals E ps 0 = some vs) (hs : ∀ x, x ∈ o.op.operands → ∀ f, opF E x = some f → f.den w (a.eval x)) (hB : B ≤ w.heap.size)
    (hm : vs.length = m) (hsz : ∀ v ∈ vs, v.cells.size = sz) (hlim : m * sz ≤ 16777216) : ∃ v w', (execOp a.eval o).run P w = .ok (.value v) w' ∧ Below w.heap.size w w' ∧ ownH B e sz (flat vs) w' v := by
    obtain ⟨inf, hi, hz, hs1, hby⟩ := he.hi
    have hps := litVals_spec (a := a) (w := w) hv (fun p hp f hf => hs p.2 (by
      simp only [hop, Op.operands, List.mem_toArray, List.mem_map]
      exact ⟨p, hp, rfl⟩) f hf)
    have hpos := he.hs
    obtain ⟨cs0, hcs0⟩ : ∃ cs0 : Array Value, cs0 = (Array.range (m * sz)).map (fun j => (if m * sz = 0 then (#[] : Array Value) else z.cells)[j % (if m * sz = 0 then (#[] : Array Value) else z.cells).size]!) := ⟨_, rfl⟩
    have hsize0 : cs0.size = m * sz := by rw [hcs0]; simp
    obtain ⟨cs', hf, hl⟩ := fill_numbered (sz := sz) vs 0 cs0 hsz (by rw [hsize0, Nat.zero_add, hm]; exact Nat.le_refl _)
    have hl' : cs'.toList = flat vs := by
      rw [hl]
      simp only [Nat.zero_mul, List.take_zero, List.nil_append, Nat.zero_add, hm]
      rw [List.drop_of_length_le (by rw [Array.length_toList, hsize0]; exact Nat.le_refl _), List.append_nil]
    have hsz' : cs'.size = m * sz := by rw [← Array.length_toList, hl', flat_length hsz, hm]
    refine ⟨.slice (some ⟨w.heap.size, 0, none⟩) m m, w.alloc (.cells cs' e), ?_, ((Below.refl _ _).alloc (Nat.le_refl _) _), ?_⟩
    · have hrun : (Instr.buildSlice t m (numbered vs 0).toArray).run P w = .ok (.slice (some ⟨w.heap.size, 0, none⟩) m m) (w.alloc (.cells cs' e)) := by
        unfold Instr.buildSlice
        have hle : ¬ (m * sz > 2 ^ 24) := by omega
        by_cases h0 : m * sz = 0
        · simp only [h0, if_true] at hcs0
          simp [run_underlying he.ht, sizeOf, typeInfo, hi, hs1, h0, newRow]
          rw [hcs0] at hf
          simp at hf
          simp [hf]
        · simp only [h0, if_false] at hcs0
          have hf' := hf
          rw [hcs0] at hf'
          simp [run_underlying he.ht, sizeOf, typeInfo, hi, hs1, hle, h0, newRow, zeroValue, hz]
          rw [hf']
          simp
      have hmap : (ps.toArray.map fun (p : Nat × Operand) => (p.1, a.eval p.2)) = (numbered vs 0).toArray := by rw [← hps]; simp
      simp only [execOp, hop]
      rw [show (ps.toArray.map fun (x : Nat × Operand) => match x with | (i, x) => (i, a.eval x)) = (numbered vs 0).toArray from hmap]
      simp only [Sem.run_bind, hrun, Result.andThen_ok, Sem.run_pure]
    · refine ⟨Nat.le_trans (hB) (by simp), m, ?_⟩
      have := World.ownsRow_lit (base := B) (e := e) (size := sz) w cs' m (hB) (by simp only [maxLen]; have : m ≤ m * sz := Nat.le_mul_of_pos_right _ hpos; omega) hsz'
      rw [hl'] at this
      exact this
theorem Plan.lit {t e : TypeId} {z : Value} {sz bytes B m : Nat} {ps : List (Nat × Operand)} {vs : List Value} (ho : ops[i]? = some o) (hop : o.op = .buildSlice t m ps.toArray)
    (hg : wantB ops E o = some true) (he : Elt P t e z sz bytes) (hv : litVals E ps 0 = some vs) (hB : ∀ w, I w → B ≤ w.heap.size)
    (hm : vs.length = m) (hsz : ∀ v ∈ vs, v.cells.size = sz) (hlim : m * sz ≤ 16777216)
    (h : Plan P ops Q n I d k (i + 1) (setE o.dst (own B e sz (flat vs)) E)) : Plan P ops Q n I d (k + 1) i E :=
  Plan.step ho (Step.run ho hg fun a w hI hs => by
    obtain ⟨v, w', h1, h2, h3⟩ := lit_run (B := B) (a := a) (w := w) hop he hv hs (hB w hI) hm hsz hlim
    exact ⟨v, w', h1, h2, by simpa only [own, Fa.den] using h3⟩) h

/-- A number told otherwise. -/
theorem Plan.re {t : Nat} {v v' : Value} {E : Env} (hv : v = v') (h : Plan P ops Q n I d k i ((t, .ex v') :: E)) : Plan P ops Q n I d k i ((t, .ex v) :: E) := hv ▸ h
theorem Plan.int {t : Nat} {kd : IntKind} {x y : Int} {E : Env} (hv : x = y) (h : Plan P ops Q n I d k i ((t, .ex (.int kd y)) :: E)) : Plan P ops Q n I d k i ((t, .ex (.int kd x)) :: E) := hv ▸ h
theorem Plan.boolv {t : Nat} {x y : Bool} {E : Env} (hv : x = y) (h : Plan P ops Q n I d k i ((t, .ex (.bool y)) :: E)) : Plan P ops Q n I d k i ((t, .ex (.bool x)) :: E) := hv ▸ h
end
end Go.Free
end

section
set_option linter.unusedSimpArgs false
set_option linter.unusedVariables false
set_option maxRecDepth 20000
namespace Go.Free
open Go.RowKit

/-! ### Addresses of elements, loads -/
def ptrH (cs : List Value) (w : World) (v : Value) : Prop := ∃ a, v = .pointer (some a) ∧ ∀ j u, cs[j]? = some u → w.cell? (a.add j) = some u
theorem ptrH_mono {cs : List Value} {w w' : World} {v : Value} (hb : Below w.heap.size w w') (h : ptrH cs w v) : ptrH cs w' v := by
  obtain ⟨a, rfl, hc⟩ := h
  exact ⟨a, rfl, fun j u hu => (hb.cell (World.block_lt_of_cell? w _ (hc j u hu))).trans (hc j u hu)⟩
/-- The address of cells that read cs. -/
def ptrF (cs : List Value) : Fa := .is ⟨ptrH cs, fun _ _ _ hb h => ptrH_mono hb h⟩

theorem add_add (a : Addr) (m j : Nat) : (a.add m).add j = a.add (m + j) := by
  unfold Addr.add
  by_cases h1 : m = 0 <;> by_cases h2 : j = 0 <;> simp [h1, h2, Nat.add_assoc]

def aggB : TypeDesc → Bool
  | .struct _ => true
  | .array _ _ => true
  | _ => false

theorem flatMap_seg {α : Type} (enc : α → List Value) (sz : Nat) (hsz : ∀ x, (enc x).length = sz) (d : α) : ∀ (l : List α) (j : Nat), j < l.length → ((l.flatMap enc).drop (j * sz)).take sz = enc (l.getD j d)
  | [], j, h => by simp at h
  | x :: l, 0, _ => by simp [List.take_left' (hsz x)]
  | x :: l, j + 1, h => by
    have h' : j < l.length := by simpa using h
    have ih := flatMap_seg enc sz hsz d l j h'
    simp only [List.flatMap_cons, List.getD_cons_succ]
    rw [show (j + 1) * sz = (enc x).length + j * sz by rw [hsz, Nat.add_mul]; omega, ← List.drop_drop, List.drop_left]
    exact ih
theorem flatMap_length {α : Type} (enc : α → List Value) (sz : Nat) (hsz : ∀ x, (enc x).length = sz) (l : List α) : (l.flatMap enc).length = l.length * sz := by
  induction l with
  | nil => simp
  | cons x l ih => simp only [List.flatMap_cons, List.length_append, List.length_cons, ih, hsz, Nat.add_mul]; omega
theorem bs_flat (l : List UInt8) : bs l = l.flatMap fun b => [.int .u8 b.toNat] := by
  induction l with
  | nil => rfl
  | cons b l ih => simp [bs] at ih ⊢; exact ih

section
variable {P : Program} {ops : Array Oper} {Q : Exit → Act → World → Prop} {n : Nat} {I : World → Prop} {k i : Nat} {E : Env} {o : Oper} {d : Bool}

theorem Plan.indexAddr {α : Type} {t e : TypeId} {z : Value} {bytes : Nat} {x y : Operand} {g : Fa} {kd : IntKind} {j : Int} (enc : α → List Value) (sz : Nat) (l : List α) (dv : α) (ho : ops[i]? = some o) (hop : o.op = .indexAddr t x y)
    (hg : wantB ops E o = some true) (hx : opF E x = some g) (hs : Sub I g (row sz (l.flatMap enc))) (hy : opF E y = some (.ex (.int kd j))) (he : Elt P t e z sz bytes) (henc : ∀ x, (enc x).length = sz) (h0 : 0 ≤ j) (h1 : j < l.length)
    (h : Plan P ops Q n I d k (i + 1) (setE o.dst (ptrF (enc (l.getD j.toNat dv))) E)) : Plan P ops Q n I d (k + 1) i E :=
  Plan.step ho (Step.run ho hg fun a w hI hs' => by
    have e1 := hs w _ hI (hs' x (by simp [hop, Op.operands]) _ hx)
    have e2 := hs' y (by simp [hop, Op.operands]) _ hy
    simp only [Fa.den, row, rowP] at e1 e2
    obtain ⟨A, m, c, hv, hmc, hc, hl, hnil, hcell⟩ := e1
    obtain ⟨inf, hi, hz, hs1, hby⟩ := he.hi
    have hpos := he.hs
    rw [flatMap_length enc sz henc] at hl
    have hm : m = l.length := (Nat.eq_of_mul_eq_mul_right hpos hl).symm
    have hjl : j.toNat < l.length := by omega
    have hcells : ∀ q u, (enc (l.getD j.toNat dv))[q]? = some u → ∃ ad, A = some ad ∧ w.cell? (ad.add (j.toNat * sz + q)) = some u := by
      intro q u hu
      refine hcell (j.toNat * sz + q) u ?_
      rw [← flatMap_seg enc sz henc dv l j.toNat hjl, List.getElem?_take] at hu
      split at hu
      · rw [List.getElem?_drop] at hu; exact hu
      · cases hu
    have hsome : ∃ ad, A = some ad := by
      have hlt : 0 < (enc (l.getD j.toNat dv)).length := by rw [henc]; exact hpos
      obtain ⟨ad, h2, _⟩ := hcells 0 _ (List.getElem?_eq_getElem hlt)
      exact ⟨ad, h2⟩
    obtain ⟨ad, rfl⟩ := hsome
    refine ⟨.pointer (some (ad.add (j.toNat * sz))), w, ?_, Below.refl _ _, ?_⟩
    · have hj2 : j < (m : Int) := by omega
      simp [execOp, hop, hv, e2, Instr.indexAt, asIntOf, run_underlying he.ht, h0, hj2, sizeOf, typeInfo, hi, hs1]
    · refine ⟨_, rfl, fun q u hu => ?_⟩
      obtain ⟨ad', h2, h3⟩ := hcells q u hu
      cases h2
      rw [add_add]; exact h3) h

theorem Plan.load {t : TypeId} {u : TypeDesc} {x : Operand} {g : Fa} {v : Value} (ho : ops[i]? = some o) (hop : o.op = .load t x) (hg : wantB ops E o = some true)
    (hx : opF E x = some g) (hs : Sub I g (ptrF [v])) (hu : P.underlying t = some u) (hna : aggB u = false)
    (h : Plan P ops Q n I d k (i + 1) (setE o.dst (.ex v) E)) : Plan P ops Q n I d (k + 1) i E :=
  Plan.step ho (Step.run ho hg fun a w hI hs' => by
    have e1 := hs w _ hI (hs' x (by simp [hop, Op.operands]) _ hx)
    obtain ⟨ad, hv, hc⟩ := e1
    have hc0 := hc 0 v rfl
    simp only [Addr.add, if_true] at hc0
    refine ⟨v, w, ?_, Below.refl _ _, by simp [Fa.den]⟩
    have hagg : (isAgg t).run P w = .ok false w := by
      cases u <;> simp [aggB] at hna <;> simp [isAgg, run_underlying hu]
    simp [execOp, hop, hv, Instr.loadAt, Instr.sureAddr, loadVar, hagg, run_load, hc0]) h

theorem run_loadCellsFrom (a : Addr) (w : World) : ∀ (m i : Nat) (acc : Array Value) (cs : List Value), cs.length = m → (∀ j u, cs[j]? = some u → w.cell? (a.add (i + j)) = some u) →
    (loadCellsFrom a i m acc).run P w = .ok (acc ++ cs.toArray) w
  | 0, i, acc, cs, hl, _ => by
    have : cs = [] := List.eq_nil_of_length_eq_zero hl
    subst this; simp [loadCellsFrom]
  | m + 1, i, acc, [], hl, _ => by simp at hl
  | m + 1, i, acc, c :: cs, hl, hc => by
    have h0 := hc 0 c rfl
    simp only [Nat.add_zero] at h0
    have ih := run_loadCellsFrom a w m (i + 1) (acc.push c) cs (by simpa using hl) (fun j u hu => by
      have := hc (j + 1) u (by simpa using hu)
      rw [← this]; congr 2; omega)
    simp [loadCellsFrom, run_load, h0, ih]

theorem Plan.loadAgg {t : TypeId} {u : TypeDesc} {x : Operand} {g : Fa} {cs : List Value} {inf : TypeInfo} (ho : ops[i]? = some o) (hop : o.op = .load t x) (hg : wantB ops E o = some true)
    (hx : opF E x = some g) (hs : Sub I g (ptrF cs)) (hu : P.underlying t = some u) (hna : aggB u = true) (hi : P.info? t = some inf) (hsz : inf.size = cs.length)
    (h : Plan P ops Q n I d k (i + 1) (setE o.dst (.ex (.agg cs.toArray)) E)) : Plan P ops Q n I d (k + 1) i E :=
  Plan.step ho (Step.run ho hg fun a w hI hs' => by
    have e1 := hs w _ hI (hs' x (by simp [hop, Op.operands]) _ hx)
    obtain ⟨ad, hv, hc⟩ := e1
    refine ⟨.agg cs.toArray, w, ?_, Below.refl _ _, by simp [Fa.den]⟩
    have hagg : (isAgg t).run P w = .ok true w := by
      cases u <;> simp [aggB] at hna <;> simp [isAgg, run_underlying hu]
    have hl := run_loadCellsFrom (P := P) ad w cs.length 0 #[] cs rfl (fun j u hu => by simpa using hc j u hu)
    simp [execOp, hop, hv, Instr.loadAt, Instr.sureAddr, loadVar, hagg, sizeOf, typeInfo, hi, hsz, loadCells, hl]) h

/-- x[lo:hi] of a slice that is read, up to its length. -/
theorem rowH_take {sz m : Nat} {cs : List Value} {w : World} {A : Option Addr} {len c : Nat} (h : rowH sz cs w (.slice A len c)) (hm : m ≤ len) : rowH sz (cs.take (m * sz)) w (.slice A m c) := by
  obtain ⟨A', n', c', hv, h1, h2, h3, h4, h5⟩ := h
  cases hv
  refine ⟨A, m, c, rfl, by omega, h2, ?_, h4, fun j u hu => ?_⟩
  · rw [List.length_take, h3]; exact Nat.min_eq_left (Nat.mul_le_mul_right _ hm)
  · rw [List.getElem?_take] at hu
    split at hu
    · exact h5 j u hu
    · cases hu
theorem rowH_drop {sz m : Nat} {cs : List Value} {w : World} {A : Option Addr} {len c : Nat} (h : rowH sz cs w (.slice A len c)) (hm : m ≤ len) :
    rowH sz (cs.drop (m * sz)) w (.slice (if c = m then A else A.map (·.add (m * sz))) (len - m) (c - m)) := by
  obtain ⟨A', n', c', hv, h1, h2, h3, h4, h5⟩ := h
  cases hv
  refine ⟨_, _, _, rfl, by omega, by omega, ?_, ?_, fun j u hu => ?_⟩
  · rw [List.length_drop, h3, Nat.sub_mul]
  · intro hA
    split at hA
    · omega
    · cases A with
      | none => have := h4 rfl; omega
      | some ad => simp at hA
  · rw [List.getElem?_drop] at hu
    obtain ⟨ad, rfl, hc⟩ := h5 _ u hu
    have hlt : m * sz + j < len * sz := by rw [← h3]; exact (List.getElem?_eq_some_iff.1 hu).1
    have hcm : ¬ c = m := by
      intro e
      have : len * sz ≤ m * sz := Nat.mul_le_mul_right _ (by omega)
      omega
    rw [if_neg hcm]
    exact ⟨_, rfl, by rw [add_add]; exact hc⟩

theorem run_sliceBound_ok {w : World} {kd : IntKind} {i : Int} {y : Nat} {code : BoundsCode} (h0 : 0 ≤ i) (h1 : i ≤ y) : (Instr.sliceBound (.int kd i) y code).run P w = .ok i.toNat w := by
  simp [Instr.sliceBound, asIntOf, h0, h1]

/-- x[:hi], x[lo:], x[lo:hi], x[:] of a slice that is read: lo, hi as numbers (0 and the length where they aren't given). -/
theorem Plan.sliceRow {t e : TypeId} {z : Value} {sz bytes : Nat} {x : Operand} {lo hi : Option Operand} {g : Fa} {cs : List Value} {m a0 b0 : Nat} (ho : ops[i]? = some o) (hop : o.op = .slice t x lo hi none)
    (hg : wantB ops E o = some true) (hx : opF E x = some g) (hs : Sub I g (row sz cs)) (he : Elt P t e z sz bytes) (hm : cs.length = m * sz)
    (hlo : (lo = none ∧ a0 = 0) ∨ ∃ y kd, lo = some y ∧ opF E y = some (.ex (.int kd a0))) (hhi : (hi = none ∧ b0 = m) ∨ ∃ y kd, hi = some y ∧ opF E y = some (.ex (.int kd b0)))
    (hab : a0 ≤ b0) (hbm : b0 ≤ m)
    (h : Plan P ops Q n I d k (i + 1) (setE o.dst (row sz ((cs.take (b0 * sz)).drop (a0 * sz))) E)) : Plan P ops Q n I d (k + 1) i E :=
  Plan.step ho (Step.run ho hg fun a w hI hs' => by
    have e1 := hs w _ hI (hs' x (by simp [hop, Op.operands]) _ hx)
    simp only [Fa.den, row, rowP] at e1
    obtain ⟨inf, hinf, hz, hs1, hby⟩ := he.hi
    have hpos := he.hs
    obtain ⟨A, m', c, hv, h1, h2, h3, h4, h5⟩ := id e1
    have hm' : m' = m := Nat.eq_of_mul_eq_mul_right hpos (h3.symm.trans hm)
    subst hm'
    rw [hv] at e1
    have hrow := rowH_drop (rowH_take e1 hbm) hab
    have hrun : ∀ (vl vh : Option Value), (vl = none ∧ a0 = 0 ∨ ∃ kd, vl = some (.int kd (a0 : Int))) → (vh = none ∧ b0 = m' ∨ ∃ kd, vh = some (.int kd (b0 : Int))) →
        (Instr.sliceAt t (.slice A m' c) vl vh none).run P w = .ok (.slice (if c = a0 then A else A.map (·.add (a0 * sz))) (b0 - a0) (c - a0)) w := by
      intro vl vh hl hh
      have hB : (Instr.sliceBounds true m' c vl vh none).run P w = .ok (a0, b0, c) w := by
        unfold Instr.sliceBounds
        rcases hl with ⟨rfl, rfl⟩ | ⟨kd, rfl⟩ <;> rcases hh with ⟨rfl, rfl⟩ | ⟨kd', rfl⟩
        · simp
        · simp [run_sliceBound_ok (P := P) (w := w) (Int.natCast_nonneg b0) (show (b0 : Int) ≤ c by omega)]
        · simp [run_sliceBound_ok (P := P) (w := w) (Int.natCast_nonneg a0) (show (a0 : Int) ≤ b0 by omega)]
        · simp [run_sliceBound_ok (P := P) (w := w) (Int.natCast_nonneg b0) (show (b0 : Int) ≤ c by omega), run_sliceBound_ok (P := P) (w := w) (Int.natCast_nonneg a0) (show (a0 : Int) ≤ b0 by omega)]
      simp [Instr.sliceAt, run_underlying he.ht, Instr.slice, hB, sizeOf, typeInfo, hinf, hs1]
    refine ⟨_, w, ?_, Below.refl _ _, hrow⟩
    have hr := hrun (lo.map a.eval) (hi.map a.eval) (by
      rcases hlo with ⟨rfl, h⟩ | ⟨y, kd, rfl, hy⟩
      · exact .inl ⟨rfl, h⟩
      · have := hs' y (by simp [hop, Op.operands]) _ hy
        simp only [Fa.den] at this
        exact .inr ⟨kd, by simp [this]⟩) (by
      rcases hhi with ⟨rfl, h⟩ | ⟨y, kd, rfl, hy⟩
      · exact .inl ⟨rfl, h⟩
      · have := hs' y (by simp [hop, Op.operands]) _ hy
        simp only [Fa.den] at this
        exact .inr ⟨kd, by simp [this]⟩)
    simp only [execOp, hop, Option.map_none, hv, Sem.run_bind, hr, Result.andThen_ok, Sem.run_pure]) h

/-- A slice against nil: where it is nil, it has no elements. -/
def nilB (p : Prop) : Fa := .is ⟨fun _ v => (v = .bool true ∧ p) ∨ v = .bool false, fun _ _ _ _ h => h⟩
theorem Plan.eqlNil {t e yt : TypeId} {x : Operand} {g : Fa} {sz : Nat} {cs : List Value} (ho : ops[i]? = some o) (hop : o.op = .binOp .eql t x (.const (.slice none 0 0)) yt) (hg : wantB ops E o = some true)
    (hx : opF E x = some g) (hs : Sub I g (row sz cs)) (hu : P.underlying t = some (.slice e))
    (h : Plan P ops Q n I d k (i + 1) (setE o.dst (nilB (cs = [])) E)) : Plan P ops Q n I d (k + 1) i E :=
  Plan.step ho (Step.run ho hg fun a w hI hs' => by
    have h1 := hs w _ hI (hs' x (by simp [hop, Op.operands]) _ hx)
    obtain ⟨A, m, c, hv, hmc, hc, hl, hnil, hcell⟩ := h1
    have hr := Lib.run_eql_slice_nil (P := P) w t e A m c 0 0 hu
    have hgd : (eqGuard .eql t x (.const (.slice none 0 0)) (.slice A m c) (.slice none 0 0)).run P w = .ok () w := by simp [eqGuard]
    refine ⟨.bool A.isNone, w, ?_, Below.refl _ _, ?_⟩
    · have hev : a.eval (.const (.slice none 0 0)) = .slice none 0 0 := rfl
      simp only [execOp, hop, hv, hev, Sem.run_bind, hgd, Result.andThen_ok, hr, Sem.run_pure]
    · show (_ ∧ _) ∨ _
      cases A with
      | some ad => exact .inr rfl
      | none =>
        refine .inl ⟨rfl, ?_⟩
        have h0 := hnil rfl
        have hm0 : m = 0 := by omega
        rw [hm0, Nat.zero_mul] at hl
        exact List.eq_nil_of_length_eq_zero hl) h

theorem J.condNil {t : Nat} {p : Prop} {x y : Code} (hc : look E t = some (nilB p)) (ht : p → J P n I x Q E) (hf : J P n I y Q E) : J P n I (.cond (.tmp t) x y) Q E :=
  fun a w h1 h2 h3 => by
    have h4 : ((a.slot t = .bool true ∧ p) ∨ a.slot t = .bool false) := h3 t _ hc
    rcases h4 with ⟨h5, hp⟩ | h5
    · exact wp_cond_true (by simpa [Act.eval, Act.slot] using h5) (ht hp a w h1 h2 h3)
    · exact wp_cond_false (by simpa [Act.eval, Act.slot] using h5) (hf a w h1 h2 h3)

theorem Sub.nilOwn {B e sz : Nat} (hB : ∀ w, I w → B ≤ w.heap.size) : Sub I (.ex (.slice none 0 0)) (Free.own B e sz []) := fun w v hI h => by
  simp only [Fa.den] at h
  subst h
  exact ⟨hB w hI, 0, World.ownsRow_nil w B e sz⟩
theorem Sub.nilRow {sz : Nat} : Sub I (.ex (.slice none 0 0)) (row sz []) := fun w v _ h => by
  simp only [Fa.den] at h
  subst h
  exact ⟨none, 0, 0, rfl, Nat.le_refl _, by omega, by simp, fun _ => rfl, fun j u hu => by simp at hu⟩
theorem Sub.ownLower {B B' e sz : Nat} {cs : List Value} (hB : B' ≤ B) : Sub I (Free.own B e sz cs) (Free.own B' e sz cs) := fun w v _ h => by
  simp only [Free.own, Fa.den] at h ⊢; exact own_lower h hB
theorem Sub.rowEq {sz : Nat} {g : Fa} {cs cs' : List Value} (he : cs = cs') (h : Sub I g (row sz cs)) : Sub I g (row sz cs') := he ▸ h
theorem Sub.trans {f g h : Fa} (h1 : Sub I f g) (h2 : Sub I g h) : Sub I f h := fun w v hI hd => h2 w v hI (h1 w v hI hd)

/-- A string's piece. -/
theorem Plan.sliceStr {t : TypeId} {x : Operand} {lo hi : Option Operand} {p : List UInt8} {a0 b0 : Nat} (ho : ops[i]? = some o) (hop : o.op = .slice t x lo hi none)
    (hg : wantB ops E o = some true) (hx : opF E x = some (.ex (str p))) (hu : P.underlying t = some .string)
    (hlo : (lo = none ∧ a0 = 0) ∨ ∃ y kd, lo = some y ∧ opF E y = some (.ex (.int kd a0))) (hhi : (hi = none ∧ b0 = p.length) ∨ ∃ y kd, hi = some y ∧ opF E y = some (.ex (.int kd b0)))
    (hab : a0 ≤ b0) (hbm : b0 ≤ p.length)
    (h : Plan P ops Q n I d k (i + 1) (setE o.dst (.ex (str ((p.take b0).drop a0))) E)) : Plan P ops Q n I d (k + 1) i E :=
  Plan.step ho (Step.run ho hg fun a w hI hs' => by
    have e1 := hs' x (by simp [hop, Op.operands]) _ hx
    simp only [Fa.den, str] at e1
    have hsz : (ByteArray.mk p.toArray).size = p.length := by simp [ByteArray.size]
    have hrun : ∀ (vl vh : Option Value), (vl = none ∧ a0 = 0 ∨ ∃ kd, vl = some (.int kd (a0 : Int))) → (vh = none ∧ b0 = p.length ∨ ∃ kd, vh = some (.int kd (b0 : Int))) →
        (Instr.sliceAt t (.string ⟨p.toArray⟩) vl vh none).run P w = .ok (str ((p.take b0).drop a0)) w := by
      intro vl vh hl hh
      have hB : (Instr.sliceBounds false p.length p.length vl vh none).run P w = .ok (a0, b0, p.length) w := by
        unfold Instr.sliceBounds
        rcases hl with ⟨rfl, rfl⟩ | ⟨kd, rfl⟩ <;> rcases hh with ⟨rfl, rfl⟩ | ⟨kd', rfl⟩
        · simp
        · simp [run_sliceBound_ok (P := P) (w := w) (Int.natCast_nonneg b0) (show (b0 : Int) ≤ p.length by omega)]
        · simp [run_sliceBound_ok (P := P) (w := w) (Int.natCast_nonneg a0) (show (a0 : Int) ≤ p.length by omega)]
        · simp [run_sliceBound_ok (P := P) (w := w) (Int.natCast_nonneg b0) (show (b0 : Int) ≤ p.length by omega), run_sliceBound_ok (P := P) (w := w) (Int.natCast_nonneg a0) (show (a0 : Int) ≤ b0 by omega)]
      have hex : (ByteArray.mk p.toArray).extract a0 b0 = ⟨((p.take b0).drop a0).toArray⟩ := by
        rw [ByteArray.extract_mk, List.drop_take]
      simp only [Instr.sliceAt, Sem.run_bind, run_underlying hu, Result.andThen_ok, Instr.slice, hsz, Option.isSome_none, Bool.false_eq_true, if_false, Sem.run_pure, hB, hex, str]
    have hr := hrun (lo.map a.eval) (hi.map a.eval) (by
      rcases hlo with ⟨rfl, h⟩ | ⟨y, kd, rfl, hy⟩
      · exact .inl ⟨rfl, h⟩
      · have := hs' y (by simp [hop, Op.operands]) _ hy
        simp only [Fa.den] at this
        exact .inr ⟨kd, by simp [this]⟩) (by
      rcases hhi with ⟨rfl, h⟩ | ⟨y, kd, rfl, hy⟩
      · exact .inl ⟨rfl, h⟩
      · have := hs' y (by simp [hop, Op.operands]) _ hy
        simp only [Fa.den] at this
        exact .inr ⟨kd, by simp [this]⟩)
    refine ⟨_, w, ?_, Below.refl _ _, by simp only [Fa.den]; rfl⟩
    simp only [execOp, hop, Option.map_none, e1, Sem.run_bind, hr, Result.andThen_ok, Sem.run_pure]) h

/-- []byte("constant"): the literal's row, marked; it is read from here on. -/
theorem run_convert_same {w : World} {t e : TypeId} {v : Value} {B : Nat} {l : List UInt8} (hu : P.underlying t = some (.slice e)) (he : P.underlying e = some (.int .u8)) (hne : v ≠ .slice none 0 0) (h : ownH B e 1 (bs l) w v) :
    ∃ w', (convert t t v).run P w = .ok v w' ∧ w.grownBy w' v.ownBlock ∧ rowH 1 (bs l) w' v := by
  have hrow := own_row h
  obtain ⟨_, n, hl, h | ⟨g, cap, cur, rfl, hb, hh, h1, h2, h3, h4⟩⟩ := h
  · exact absurd h.1 hne
  · have hshape : w.shape? g = some (e, cur.size) := by simp [World.shape?, hh]
    refine ⟨w.freeze ⟨g, cur.size, none⟩ 1, ?_, ⟨rfl, rfl, rfl, by simp [World.freeze], fun k hk hne => ?_⟩, ?_⟩
    · simp [convert, run_underlying hu, run_underlying he, markStringish, hshape]
    · have : g ≠ k := fun e => hne (by simp [Value.ownBlock, e])
      simp [World.freeze, Array.getElem?_modify, this]
    · obtain ⟨A, m, c, hv, e1, e2, e3, e4, e5⟩ := hrow
      cases hv
      refine ⟨_, _, _, rfl, e1, e2, e3, e4, fun j u hu => ?_⟩
      obtain ⟨ad, hA, hc⟩ := e5 j u hu
      cases hA
      refine ⟨_, rfl, ?_⟩
      have hadd : (⟨g, 0, none⟩ : Addr).add j = ⟨g, j, none⟩ := by unfold Addr.add; split <;> simp_all
      rw [hadd] at hc ⊢
      have hlt : g < w.heap.size := (Array.getElem?_eq_some_iff.1 hh).1
      simp only [World.cell?, hh] at hc
      simp only [World.cell?, World.freeze, Nat.one_ne_zero, if_false, Array.getElem?_modify, if_true, hh, Option.map_some]
      simpa using hc

theorem Plan.convSame {t e : TypeId} {x : Operand} {B : Nat} {l : List UInt8} {f : Fa} (ho : ops[i]? = some o) (hop : o.op = .convert t t x) (hg : wantB ops E o = some true) (hd : ∀ d, o.dst = some d → d < n)
    (hx : opF E x = some f) (hfs : Sub I f (own B e 1 (bs l))) (hu : P.underlying t = some (.slice e)) (he : P.underlying e = some (.int .u8)) (hl : l ≠ [])
    (hG : ∀ w w' r, I w → w.grownBy w' r → (∀ b, r = some b → B ≤ b) → I w')
    (h : Plan P ops Q n I d k (i + 1) (setE o.dst (bytesF l) (sieve E))) (hq : d = false ∨ barB ops i = true := by first | exact .inl rfl | exact .inr (by kernel_rfl)) : Plan P ops Q n I d (k + 1) i E :=
  Plan.eff ho hg hd (fun a w hI _ hs' => by
    have e1 := hfs w _ hI (hs' x (by simp [hop, Op.operands]) _ hx)
    simp only [own, Fa.den] at e1
    have hne : a.eval x ≠ .slice none 0 0 := by
      intro he'
      rw [he'] at e1
      obtain ⟨_, m, hlen, h | ⟨g, cap, cur, hv, _⟩⟩ := e1
      · rw [h.2, bs_length] at hlen
        exact hl (List.eq_nil_of_length_eq_zero (by simpa using hlen))
      · simp at hv
    obtain ⟨w', hr, h2, h3⟩ := run_convert_same hu he hne e1
    refine ⟨a.eval x, w', .inl ?_, hG w w' _ hI h2 ?_, h3⟩
    · simp only [execOp, hop, Sem.run_bind, hr, Result.andThen_ok, Sem.run_pure]
    · intro b hb
      obtain ⟨_, m, hm⟩ := e1
      exact (hm.lt b hb).1) hq h

/-! ### A row of the call's own laid open: its value stands in a slot exactly; that it is owned stands under a key of its own beyond the slots -/
def res (B e sz : Nat) (cs : List Value) (v : Value) : Fa := .is ⟨fun w _ => ownH B e sz cs w v, fun _ _ _ hb h => ownH_mono hb h⟩

theorem J.openOwn {c : Code} {t key B e sz m : Nat} {cs : List Value} {f : Fa} (hf : look E t = some f) (hs : Sub I f (Free.own B e sz cs)) (hm : cs.length = m * sz) (hsz : 0 < sz) (hpos : 0 < m)
    (h : ∀ g cap, B ≤ g → J P n I c Q ((t, .ex (.slice (some ⟨g, 0, none⟩) m cap)) :: (key, res B e sz cs (.slice (some ⟨g, 0, none⟩) m cap)) :: E)) : J P n I c Q E := fun a w h1 h2 h3 => by
  have h4 : ownH B e sz cs w (a.slot t) := by have := hs w _ h1 (h3 t f hf); simpa only [Free.own, Fa.den] using this
  obtain ⟨hB, m', hown⟩ := id h4
  have hmm : m' = m := Nat.eq_of_mul_eq_mul_right hsz (hown.1.symm.trans hm)
  subst hmm
  rcases hown.2 with ⟨_, h0⟩ | ⟨g, cap, cur, hv, hb, _⟩
  · omega
  · refine h g cap hb a w h1 h2 ?_
    intro s f' hf'
    simp only [look] at hf'
    by_cases hst : t = s
    · subst hst
      simp only [if_true, Option.some.injEq] at hf'
      subst hf'
      simpa only [Fa.den] using hv
    · rw [if_neg hst] at hf'
      by_cases hks : key = s
      · subst hks
        simp only [if_true, Option.some.injEq] at hf'
        subst hf'
        show ownH B e sz cs w _
        rw [← hv]; exact h4
      · rw [if_neg hks] at hf'; exact h3 s f' hf'

theorem derive_sat {t : Nat} {f : Fa} {a : Act} {w : World} (h3 : Sat E a w) (hd : f.den w (a.slot t)) : Sat ((t, f) :: E) a w := by
  intro s g hg
  simp only [look] at hg
  by_cases hs : t = s
  · subst hs; simp only [if_true, Option.some.injEq] at hg; subst hg; exact hd
  · rw [if_neg hs] at hg; exact h3 s g hg
theorem close_den {t key B e sz : Nat} {cs : List Value} {v : Value} {a : Act} {w : World} (ht : look E t = some (.ex v)) (hk : look E key = some (res B e sz cs v)) (h3 : Sat E a w) : (Free.own B e sz cs).den w (a.slot t) := by
  have e1 := h3 t _ ht
  have e2 : ownH B e sz cs w v := h3 key _ hk
  simp only [Fa.den] at e1
  show ownH B e sz cs w (a.slot t)
  rw [e1]; exact e2
theorem J.closeOwn {c : Code} {t key B e sz : Nat} {cs : List Value} {v : Value} (ht : look E t = some (.ex v)) (hk : look E key = some (res B e sz cs v))
    (h : J P n I c Q ((t, Free.own B e sz cs) :: E)) : J P n I c Q E := fun a w h1 h2 h3 => h a w h1 h2 (derive_sat h3 (close_den ht hk h3))
theorem Nrm.closeOwn {K : Act → World → Prop} {t key B e sz : Nat} {cs : List Value} {v : Value} (ht : look E t = some (.ex v)) (hk : look E key = some (res B e sz cs v))
    (h : Nrm n I K ((t, Free.own B e sz cs) :: E)) : Nrm n I K E := fun a w h1 h2 h3 => h a w h1 h2 (derive_sat h3 (close_den ht hk h3))

theorem Plan.indexEx {t e : TypeId} {z : Value} {bytes sz m cap q : Nat} {x y : Operand} {ad : Addr} {kd : IntKind} {j : Int} (ho : ops[i]? = some o) (hop : o.op = .indexAddr t x y)
    (hg : wantB ops E o = some true) (hx : opF E x = some (.ex (.slice (some ad) m cap))) (hy : opF E y = some (.ex (.int kd j))) (he : Elt P t e z sz bytes) (h0 : 0 ≤ j) (h1 : j < m) (hq : j.toNat * sz = q)
    (h : Plan P ops Q n I d k (i + 1) (setE o.dst (.ex (.pointer (some (ad.add q)))) E)) : Plan P ops Q n I d (k + 1) i E :=
  Plan.step ho (Step.run ho hg fun a w hI hs' => by
    have e1 := hs' x (by simp [hop, Op.operands]) _ hx
    have e2 := hs' y (by simp [hop, Op.operands]) _ hy
    simp only [Fa.den] at e1 e2
    obtain ⟨inf, hi, hz, hs1, hby⟩ := he.hi
    refine ⟨.pointer (some (ad.add q)), w, ?_, Below.refl _ _, by simp [Fa.den]⟩
    simp [execOp, hop, e1, e2, Instr.indexAt, asIntOf, run_underlying he.ht, h0, h1, sizeOf, typeInfo, hi, hs1, hq]) h

theorem own_cell {B e sz g m cap q : Nat} {cs : List Value} {w : World} {u : Value} (h : ownH B e sz cs w (.slice (some ⟨g, 0, none⟩) m cap)) (hu : cs[q]? = some u) : w.cell? ((⟨g, 0, none⟩ : Addr).add q) = some u := by
  obtain ⟨A, m', c', hv', h1, h2, h3, h4, h5⟩ := own_row h
  cases hv'
  obtain ⟨ad, hA, hc⟩ := h5 q u hu
  cases hA; exact hc

/-- A load of one cell out of a row laid open. In a region that draws its order the key must not change. -/
theorem Plan.loadRes {t : TypeId} {u : TypeDesc} {x : Operand} {key B e sz g m cap q : Nat} {cs : List Value} {v : Value} (ho : ops[i]? = some o) (hop : o.op = .load t x) (hg : wantB ops E o = some true) (hd : d = false)
    (hx : opF E x = some (.ex (.pointer (some ((⟨g, 0, none⟩ : Addr).add q))))) (hk : look E key = some (res B e sz cs (.slice (some ⟨g, 0, none⟩) m cap))) (hv : cs[q]? = some v) (hu : P.underlying t = some u) (hna : aggB u = false) (hdn : ∀ d, o.dst = some d → d < n)
    (h : Plan P ops Q n I d k (i + 1) (setE o.dst (.ex v) E)) : Plan P ops Q n I d (k + 1) i E := by
  refine .inr ⟨.inl hd, ?_⟩
  intro a w hI hsh hs
  have e1 := opF_den (i := i) (f := .ex (.pointer (some ((⟨g, 0, none⟩ : Addr).add q)))) ho (x := x) (by simp [hop, Op.operands]) (fun t _ f hf => hs t f hf) hx
  have e2 : ownH B e sz cs w _ := hs key _ hk
  simp only [Fa.den] at e1
  have hc := own_cell e2 hv
  have hagg : (isAgg t).run P w = .ok false w := by
    cases u <;> simp [aggB] at hna <;> simp [isAgg, run_underlying hu]
  unfold wpOp
  simp only [ho, wantB_spec ho hsh (fun t _ f hf => hs t f hf) hg, if_true]
  refine .inl ?_
  unfold Oper.wp
  have hr : (execOp a.eval o).run P w = .ok (.value v) w := by
    simp [execOp, hop, e1, Instr.loadAt, Instr.sureAddr, loadVar, hagg, run_load, hc]
  rw [hr]
  refine ⟨_, h, hI, hsh.put _ _, ?_⟩
  intro s f hf
  cases hdst : o.dst with
  | none => rw [hdst] at hf; exact hs s f hf
  | some dd =>
    rw [hdst] at hf
    simp only [setE, look] at hf
    by_cases hds : dd = s
    · subst hds
      simp only [if_true, Option.some.injEq] at hf
      subst hf
      rw [slot_put_same hsh (hdn dd hdst)]
      simp [Fa.den]
    · rw [if_neg hds] at hf
      rw [slot_put_ne a hds]; exact hs s f hf

/-- x[i] = v of one cell into a row laid open. -/
theorem Plan.storeRes {t : TypeId} {p x : Operand} {key B e sz g m cap q : Nat} {cs : List Value} {v : Value} {inf : TypeInfo} (ho : ops[i]? = some o) (hop : o.op = .store t p x) (hdst : o.dst = none) (hg : wantB ops E o = some true)
    (hp : opF E p = some (.ex (.pointer (some ((⟨g, 0, none⟩ : Addr).add q))))) (hx : opF E x = some (.ex v)) (hone : v.oneCell' = true) (hc1 : v.cells = #[v]) (hu : P.info? t = some inf) (hti : inf.size = 1)
    (hk : look E key = some (res B e sz cs (.slice (some ⟨g, 0, none⟩) m cap))) (hq1 : q < cs.length) (_hkn : n ≤ key)
    (hG : ∀ w w' r, I w → w.grownBy w' r → (∀ b, r = some b → B ≤ b) → I w')
    (h : Plan P ops Q n I d k (i + 1) ((key, res B e sz (cs.set q v) (.slice (some ⟨g, 0, none⟩) m cap)) :: sieve E)) (hq : d = false ∨ barB ops i = true := by first | exact .inl rfl | exact .inr (by kernel_rfl)) : Plan P ops Q n I d (k + 1) i E := by
  refine .inr ⟨hq, ?_⟩
  intro a w hI hsh hs
  have e1 := opF_den (i := i) (f := .ex (.pointer (some ((⟨g, 0, none⟩ : Addr).add q)))) ho (x := p) (by simp [hop, Op.operands]) (fun t _ f hf => hs t f hf) hp
  have e3 := opF_den (i := i) (f := .ex v) ho (x := x) (by simp [hop, Op.operands]) (fun t _ f hf => hs t f hf) hx
  have e2 : ownH B e sz cs w _ := hs key _ hk
  simp only [Fa.den] at e1 e3
  have hadd : (⟨g, 0, none⟩ : Addr).add q = ⟨g, q, none⟩ := by unfold Addr.add; split <;> simp_all
  have hc := own_cell e2 (List.getElem?_eq_getElem hq1)
  obtain ⟨hB, m', hown⟩ := id e2
  have hmm : m' = m := by
    rcases hown.2 with ⟨h0, _⟩ | ⟨g', cap', cur, hv, _⟩
    · simp at h0
    · cases hv; rfl
  subst hmm
  have hfr := hown.frozenAt q
  obtain ⟨hst, hgr⟩ := hown.stored q v
  rw [hadd] at e1 hc
  unfold wpOp
  simp only [ho, wantB_spec ho hsh (fun t _ f hf => hs t f hf) hg, if_true]
  refine .inl ?_
  unfold Oper.wp
  have hr : (execOp a.eval o).run P w = .ok .skip (w.setCell ⟨g, q, none⟩ v) := by
    have hst := run_store P w ⟨g, q, none⟩ v .plain hone
    simp only [hc, hfr] at hst
    simp [execOp, hop, e1, e3, Instr.storeAt, Instr.sureAddr, storeVar, hc1, sizeOf, typeInfo, hu, hti, storeCells, Addr.add, hst]
  rw [hr]
  show ∃ E', _ ∧ I _ ∧ Sh n (a.put o.dst undef) ∧ Sat E' (a.put o.dst undef) _
  rw [hdst]
  refine ⟨_, h, hG w _ _ hI hgr ?_, hsh, ?_⟩
  · intro b hb
    cases hb
    rcases hown.2 with ⟨h0, _⟩ | ⟨g', cap', cur, hv, hbg, _⟩
    · simp at h0
    · cases hv; exact hbg
  · intro s f hf
    simp only [look] at hf
    by_cases hks : key = s
    · subst hks
      simp only [if_true, Option.some.injEq] at hf
      subst hf
      show ownH B e sz (cs.set q v) _ _
      exact ⟨Nat.le_trans hB hgr.size, m', hst⟩
    · rw [if_neg hks] at hf
      exact sieve_sat hs _ s f hf

theorem Plan.min2 {ts : Array TypeId} {x y : Operand} {kd : IntKind} {p q : Int} (ho : ops[i]? = some o) (hop : o.op = .call { callee := .builtin .min, args := #[x, y], argTypes := ts }) (hg : wantB ops E o = some true)
    (hx : opF E x = some (.ex (.int kd p))) (hy : opF E y = some (.ex (.int kd q)))
    (h : Plan P ops Q n I d k (i + 1) (setE o.dst (.ex (.int kd (if q < p then q else p))) E)) : Plan P ops Q n I d (k + 1) i E :=
  Plan.step ho (Step.run ho hg fun a w _ hs => by
    have h1 := hs x (by simp [hop, Op.operands, Call.operands]) _ hx
    have h2 := hs y (by simp [hop, Op.operands, Call.operands]) _ hy
    simp only [Fa.den] at h1 h2
    refine ⟨_, w, ?_, Below.refl _ _, by simp only [Fa.den]; rfl⟩
    simp only [execOp, hop, resolve, invoke, builtin, List.map_toArray, List.map_cons, List.map_nil, h1, h2, Sem.run_bind, Sem.run_pure, Result.andThen_ok, run_min_int2]) h
theorem Plan.max2 {ts : Array TypeId} {x y : Operand} {kd : IntKind} {p q : Int} (ho : ops[i]? = some o) (hop : o.op = .call { callee := .builtin .max, args := #[x, y], argTypes := ts }) (hg : wantB ops E o = some true)
    (hx : opF E x = some (.ex (.int kd p))) (hy : opF E y = some (.ex (.int kd q)))
    (h : Plan P ops Q n I d k (i + 1) (setE o.dst (.ex (.int kd (if q > p then q else p))) E)) : Plan P ops Q n I d (k + 1) i E :=
  Plan.step ho (Step.run ho hg fun a w _ hs => by
    have h1 := hs x (by simp [hop, Op.operands, Call.operands]) _ hx
    have h2 := hs y (by simp [hop, Op.operands, Call.operands]) _ hy
    simp only [Fa.den] at h1 h2
    refine ⟨_, w, ?_, Below.refl _ _, by simp only [Fa.den]; rfl⟩
    simp only [execOp, hop, resolve, invoke, builtin, List.map_toArray, List.map_cons, List.map_nil, h1, h2, Sem.run_bind, Sem.run_pure, Result.andThen_ok, run_max_int2]) h
end
end Go.Free
end

section
set_option linter.unusedSimpArgs false
set_option linter.unusedVariables false
set_option maxRecDepth 20000
namespace Go.Proofs.Ytepgphflnelpoaa
open Go.Free Go.RowKit Go.Proofs

theorem mixed : Try.prog.follows .mixedOrders = true := by kernel_rfl
theorem hIb (w0 : World) : ∀ w w', Below w0.heap.size w0 w → Below w.heap.size w w' → Below w0.heap.size w0 w' := fun _ _ h k => h.trans (k.mono h.size)
theorem hBb (w0 : World) : ∀ w, Below w0.heap.size w0 w → w0.heap.size ≤ w.heap.size := fun _ h => h.size
theorem hGb (w0 : World) : ∀ w w' r, Below w0.heap.size w0 w → w.grownBy w' r → (∀ b, r = some b → w0.heap.size ≤ b) → Below w0.heap.size w0 w' := fun _ _ _ h hg hr => h.grown hg h.size hr
theorem eltB : Elt Try.prog 27 5 (.int .u8 0) 1 1 := Elt.mk' Try.underlying27 (by kernel_rfl) rfl (by decide) (by decide)
abbrev ownB (B : Nat) (l : List UInt8) : Fa := own B 5 1 (bs l)

theorem i64r {x : Int} (h : -9223372036854775808 ≤ x ∧ x ≤ 9223372036854775807) : IntKind.i64.wrap x = x := IntWalk.i64_in x h
theorem w8 (c : UInt8) : IntKind.u8.wrap (c.toNat : Int) = c.toNat := by have := c.toNat_lt; rw [IntKind.wrap_u8]; omega
end Go.Proofs.Ytepgphflnelpoaa
end

section
set_option linter.unusedSimpArgs false
set_option linter.unusedVariables false
set_option maxRecDepth 20000
namespace Go.Proofs.Ytepgphflnelpoaa
open Go.Free Go.RowKit Go.Proofs

/-! ### The check, on bit vectors -/
def crcStep (n : BitVec 16) : BitVec 16 := (n <<< 1) ^^^ (0x1021#16 * (n >>> 15))
def crcSteps : Nat → BitVec 16 → BitVec 16
  | 0, n => n
  | k + 1, n => crcStep (crcSteps k n)
def lift16 (c : UInt8) : BitVec 16 := c.toBitVec.setWidth 16
def crcByte (n : BitVec 16) (c : UInt8) : BitVec 16 := crcSteps 8 (n ^^^ (lift16 c <<< 8))
def crcFrom (n : BitVec 16) (l : List UInt8) : BitVec 16 := l.foldl crcByte n
def crcOf (l : List UInt8) : BitVec 16 := crcFrom 0xffff#16 l
theorem crcOf_take_succ (l : List UInt8) (j : Nat) (h : j < l.length) : crcOf (l.take (j + 1)) = crcByte (crcOf (l.take j)) (l.getD j 0) := by
  rw [List.take_succ_eq_append_getElem h]
  simp only [crcOf, crcFrom, List.foldl_append, List.foldl_cons, List.foldl_nil, List.getD_eq_getElem?_getD, List.getElem?_eq_getElem h, Option.getD_some]
def hi8 (n : BitVec 16) : UInt8 := ⟨(n >>> 8).setWidth 8⟩
def lo8 (n : BitVec 16) : UInt8 := ⟨n.setWidth 8⟩
def crcSeal (l : List UInt8) : List UInt8 := l ++ [hi8 (crcOf l), lo8 (crcOf l)]
def join16 (a b : UInt8) : BitVec 16 := (lift16 a <<< 8) ||| lift16 b
def crcOpen (l : List UInt8) : Option (List UInt8) :=
  if 2 ≤ l.length ∧ crcOf (l.take (l.length - 2)) = join16 (l.getD (l.length - 2) 0) (l.getD (l.length - 1) 0) then some (l.take (l.length - 2)) else none

/-! ### Numbers of sixteen bits as the model has them -/
theorem w16 (x : BitVec 16) : IntKind.u16.wrap (x.toNat : Int) = x.toNat := by have := x.isLt; rw [IntKind.wrap_u16]; omega
theorem b16 (x : BitVec 16) : BitVec.ofInt IntKind.u16.bits (x.toNat : Int) = x := by
  show BitVec.ofInt 16 (x.toNat : Int) = x
  rw [BitVec.ofInt_natCast, BitVec.ofNat_toNat, BitVec.setWidth_eq]
theorem u16_lift (c : UInt8) : IntKind.u16.wrap (c.toNat : Int) = (lift16 c).toNat := by
  have := c.toNat_lt
  rw [IntKind.wrap_u16]
  simp only [lift16, BitVec.toNat_setWidth, UInt8.toNat_toBitVec]
  omega
theorem u16_shl (x : BitVec 16) (k : Nat) : IntKind.u16.wrap ((x.toNat : Int) * 2 ^ k) = (x <<< k).toNat := by
  rw [IntKind.wrap_u16, BitVec.toNat_shiftLeft, Nat.shiftLeft_eq]
  rw [Int.natCast_emod, Int.natCast_mul, Int.natCast_pow]
  rfl
theorem u16_shr (x : BitVec 16) (k : Nat) : (x.toNat : Int).fdiv (2 ^ k) = (x >>> k).toNat := by
  rw [BitVec.toNat_ushiftRight, Nat.shiftRight_eq_div_pow, Int.fdiv_eq_ediv_of_nonneg _ (by exact Int.le_of_lt (Int.pow_pos (by decide)))]
  simp
theorem u16_xor (a b : BitVec 16) : IntKind.u16.wrap ((BitVec.ofInt IntKind.u16.bits (a.toNat : Int) ^^^ BitVec.ofInt IntKind.u16.bits (b.toNat : Int)).toNat : Int) = (a ^^^ b).toNat := by
  rw [b16, b16]; exact w16 (a ^^^ b)
theorem u16_or (a b : BitVec 16) : IntKind.u16.wrap ((BitVec.ofInt IntKind.u16.bits (a.toNat : Int) ||| BitVec.ofInt IntKind.u16.bits (b.toNat : Int)).toNat : Int) = (a ||| b).toNat := by
  rw [b16, b16]; exact w16 (a ||| b)
theorem u16_poly (a : BitVec 16) : IntKind.u16.wrap (4129 * (a.toNat : Int)) = (0x1021#16 * a).toNat := by
  rw [IntKind.wrap_u16, BitVec.toNat_mul]
  simp
theorem u8_of (x : BitVec 16) : IntKind.u8.wrap (x.toNat : Int) = (⟨x.setWidth 8⟩ : UInt8).toNat := by
  rw [IntKind.wrap_u8]
  show _ = ((x.setWidth 8).toNat : Int)
  rw [BitVec.toNat_setWidth]
  omega
theorem u16_in (n : BitVec 16) (c : UInt8) : IntKind.u16.wrap ((BitVec.ofInt IntKind.u16.bits (n.toNat : Int) ^^^ BitVec.ofInt IntKind.u16.bits (IntKind.u16.wrap (IntKind.u16.wrap (c.toNat : Int) * 2 ^ min (Int.toNat 8) IntKind.u16.bits))).toNat : Int) = (n ^^^ (lift16 c <<< 8)).toNat := by
  rw [u16_lift]
  have h := u16_shl (lift16 c) 8
  rw [show (IntKind.u16.wrap (((lift16 c).toNat : Int) * 2 ^ min (Int.toNat 8) IntKind.u16.bits)) = ((lift16 c <<< 8).toNat : Int) from h]
  exact u16_xor n (lift16 c <<< 8)
theorem u16_round (n : BitVec 16) : IntKind.u16.wrap ((BitVec.ofInt IntKind.u16.bits (IntKind.u16.wrap ((n.toNat : Int) * 2 ^ min (Int.toNat 1) IntKind.u16.bits)) ^^^ BitVec.ofInt IntKind.u16.bits (IntKind.u16.wrap (4129 * (n.toNat : Int).fdiv (2 ^ min (Int.toNat 15) IntKind.u16.bits)))).toNat : Int) = (crcStep n).toNat := by
  rw [show (IntKind.u16.wrap ((n.toNat : Int) * 2 ^ min (Int.toNat 1) IntKind.u16.bits)) = ((n <<< 1).toNat : Int) from u16_shl n 1,
    show (n.toNat : Int).fdiv (2 ^ min (Int.toNat 15) IntKind.u16.bits) = ((n >>> 15).toNat : Int) from u16_shr n 15, u16_poly]
  exact u16_xor _ _
theorem beq16 (a b : BitVec 16) : ((a.toNat : Int) == (b.toNat : Int)) = (a == b) := by
  rw [Bool.eq_iff_iff]
  simp only [beq_iff_eq]
  constructor
  · intro h; exact BitVec.eq_of_toNat_eq (by omega)
  · intro h; rw [h]
theorem bne16 (a b : BitVec 16) : ((a.toNat : Int) != (b.toNat : Int)) = (a != b) := by
  simp only [bne, beq16]
end Go.Proofs.Ytepgphflnelpoaa
end

section
set_option linter.unusedSimpArgs false
set_option linter.unusedVariables false
set_option maxRecDepth 20000
namespace Go.Proofs.Ytepgphflnelpoaa
open Go.Free Go.RowKit Go.Proofs

def crcEnv (w0 : World) (l : List UInt8) (j : Nat) : Env := [(3, .ex (.int .u16 (crcOf (l.take j)).toNat)), (6, .old w0 (bytesF l)), (7, .ex (.int .i64 l.length)), (8, .ex (.int .i64 j))]
def crcEnv2 (w0 : World) (l : List UInt8) (j : Nat) (m : BitVec 16) (q : Nat) : Env :=
  [(3, .ex (.int .u16 (crcSteps q m).toNat)), (6, .old w0 (bytesF l)), (7, .ex (.int .i64 l.length)), (8, .ex (.int .i64 j)), (17, .ex (.int .i64 q))]

theorem crc_Of (l : List UInt8) (hl : l.length ≤ 9223372036854775806) : Spc Try.prog 73 [bytesF l] fun _ => .ex (.int .u16 (crcOf l).toNat) := by
  refine Spc.intro Try.func73 rfl (Nat.le_of_ble_eq_true rfl) fun w0 => ?_
  have hI := hIb w0
  refine J.seq (J.region mixed hI (by kernel_rfl) ?_)
  repeat (refine Plan.assign rfl rfl rfl rfl ?_)
  refine J.seq (J.region mixed hI (by kernel_rfl) ?_)
  repeat (refine Plan.assign rfl rfl rfl rfl ?_)
  refine J.seq (J.seq (J.region mixed hI (by kernel_rfl) ?_))
  repeat (refine Plan.move rfl rfl rfl rfl ?_)
  refine Plan.lenRow rfl rfl rfl rfl (Sub.old fun _ h => h) Try.underlying27 (m := l.length) (by simp [bs]) (by decide) ?_
  repeat (refine Plan.move rfl rfl rfl rfl ?_)
  refine J.block (J.loop (crcEnv w0 l) (fun j => j ≤ l.length) (fun j => l.length - j) 0 (Nat.zero_le _) ?_ ?_)
  · exact Weak.cons rfl (Sub.refl _) (Weak.cons rfl (Sub.refl _) (Weak.cons rfl (Sub.refl _) (Weak.cons rfl (Sub.refl _) Weak.nil)))
  intro j hj
  refine J.seq (J.region mixed hI (by kernel_rfl) ?_)
  repeat (refine Plan.ints rfl rfl rfl rfl rfl rfl ?_)
  refine J.seq (J.cond rfl (fun hc => ?_) (fun hc => ?_))
  · have hlt : j < l.length := by simpa using hc
    refine J.skip ?_
    refine J.seq (J.block ?_)
    refine J.seq (J.region mixed hI (by kernel_rfl) ?_)
    refine Plan.indexAddr (fun b : UInt8 => [.int .u8 b.toNat]) 1 l 0 rfl rfl rfl rfl (Sub.trans (Sub.old fun _ h => h) (Sub.rowEq (bs_flat l) (Sub.refl _))) rfl eltB (fun _ => rfl) (by omega) (by omega) ?_
    refine Plan.load rfl rfl rfl rfl (Sub.refl _) Try.underlying5 rfl ?_
    repeat (refine Plan.assign rfl rfl rfl rfl ?_)
    refine J.seq (J.region mixed hI (by kernel_rfl) ?_)
    repeat (refine Plan.move rfl rfl rfl rfl ?_)
    refine Plan.convInt rfl rfl rfl rfl Try.underlying5 Try.underlying118 ?_
    repeat (first | refine Plan.assign rfl rfl rfl rfl ?_ | refine Plan.ints rfl rfl rfl rfl rfl rfl ?_ | refine Plan.shift rfl rfl rfl rfl rfl rfl ?_)
    refine Plan.int (u16_in _ _) ?_
    refine J.seq (J.region mixed hI (by kernel_rfl) ?_)
    repeat (refine Plan.move rfl rfl rfl rfl ?_)
    refine J.block (J.loop (crcEnv2 w0 l j (crcOf (l.take j) ^^^ (lift16 (l.getD j 0) <<< 8))) (fun q => q ≤ 8) (fun q => 8 - q) 0 (Nat.zero_le _) ?_ ?_)
    · exact Weak.cons rfl (Sub.refl _) (Weak.cons rfl (Sub.refl _) (Weak.cons rfl (Sub.refl _) (Weak.cons rfl (Sub.refl _) (Weak.cons rfl (Sub.refl _) Weak.nil))))
    intro q hq
    refine J.seq (J.region mixed hI (by kernel_rfl) ?_)
    repeat (refine Plan.ints rfl rfl rfl rfl rfl rfl ?_)
    refine J.seq (J.cond rfl (fun hc2 => ?_) (fun hc2 => ?_))
    · have hlt2 : q < 8 := by have : (q : Int) < 8 := by simpa using hc2
                              omega
      refine J.skip ?_
      refine J.seq (J.block (J.region mixed hI (by kernel_rfl) ?_))
      repeat (first | refine Plan.move rfl rfl rfl rfl ?_ | refine Plan.assign rfl rfl rfl rfl ?_ | refine Plan.ints rfl rfl rfl rfl rfl rfl ?_ | refine Plan.shift rfl rfl rfl rfl rfl rfl ?_)
      refine Plan.int (u16_round _) ?_
      refine (J.region mixed hI (by kernel_rfl) ?_)
      repeat (first | refine Plan.move rfl rfl rfl rfl ?_ | refine Plan.ints rfl rfl rfl rfl rfl rfl ?_)
      refine Nrm.weak (crcEnv2 w0 l j (crcOf (l.take j) ^^^ (lift16 (l.getD j 0) <<< 8)) (q + 1)) ?_ ?_
      · exact Weak.cons rfl (Sub.refl _) (Weak.cons rfl (Sub.refl _) (Weak.cons rfl (Sub.refl _) (Weak.cons rfl (Sub.refl _) (Weak.cons rfl (Sub.of_eq (by rw [i64r (by omega)]; rfl)) Weak.nil))))
      · exact fun a w h1 h2 h3 => ⟨q + 1, hlt2, by omega, h1, h2, h3⟩
    · have hq8 : q = 8 := by have : ¬ (q : Int) < 8 := by simpa using hc2
                             omega
      subst hq8
      refine J.exit ?_
      refine (J.region mixed hI (by kernel_rfl) ?_)
      repeat (first | refine Plan.move rfl rfl rfl rfl ?_ | refine Plan.ints rfl rfl rfl rfl rfl rfl ?_)
      refine Nrm.weak (crcEnv w0 l (j + 1)) ?_ ?_
      · refine Weak.cons rfl (Sub.of_eq ?_) (Weak.cons rfl (Sub.refl _) (Weak.cons rfl (Sub.refl _) (Weak.cons rfl (Sub.of_eq (by rw [i64r (by omega)]; rfl)) Weak.nil)))
        rw [crcOf_take_succ l j hlt]; rfl
      · exact fun a w h1 h2 h3 => ⟨j + 1, hlt, by omega, h1, h2, h3⟩
  · have hge : j = l.length := by have : ¬ (j : Int) < l.length := by simpa using hc
                                  omega
    subst hge
    refine J.exit ?_
    refine J.seq (J.region mixed hI (by kernel_rfl) ?_)
    repeat (first | refine Plan.move rfl rfl rfl rfl ?_ | refine Plan.assign rfl rfl rfl rfl ?_)
    refine J.ret (Nrm.ret1 rfl (fun _ h => h) rfl fun B _ => Sub.of_eq ?_)
    rw [List.take_length]
end Go.Proofs.Ytepgphflnelpoaa
end

section
set_option linter.unusedSimpArgs false
set_option linter.unusedVariables false
set_option maxRecDepth 20000
namespace Go.Proofs.Ytepgphflnelpoaa
open Go.Free Go.RowKit Go.Proofs

theorem bytes_Clone (l : List UInt8) (hl : l.length ≤ 140737488355328) : Spc Try.prog 32 [bytesF l] fun B => ownB B l := by
  refine Spc.intro Try.func32 rfl (Nat.le_of_ble_eq_true rfl) fun w0 => ?_
  have hI := hIb w0
  refine J.seq (J.region mixed hI (by kernel_rfl) ?_)
  repeat (refine Plan.assign rfl rfl rfl rfl ?_)
  refine J.seq (J.seq (J.region mixed hI (by kernel_rfl) ?_))
  repeat (refine Plan.move rfl rfl rfl rfl ?_)
  refine Plan.eqlNil rfl rfl rfl rfl (Sub.old fun _ h => h) Try.underlying27 ?_
  refine J.condNil rfl (fun hc => ?_) ?_
  · have hl0 : l = [] := by simpa [bs] using hc
    subst hl0
    refine J.seq (J.region mixed hI (by kernel_rfl) ?_)
    repeat (refine Plan.assign rfl rfl rfl rfl ?_)
    refine J.ret (Nrm.ret1 rfl (fun _ h => h) rfl fun B hB => Sub.nilOwn fun w h => Nat.le_trans hB (hBb w0 w h))
  refine J.skip ?_
  refine J.seq (J.region mixed hI (by kernel_rfl) ?_)
  refine Plan.lit (B := w0.heap.size) (vs := []) (ps := []) rfl rfl rfl eltB rfl (hBb w0) rfl (by simp) (by decide) ?_
  repeat (refine Plan.move rfl rfl rfl rfl ?_)
  refine Plan.append rfl rfl rfl rfl (Sub.refl _) rfl (Sub.old fun _ h => h) eltB (by intro d hd; cases hd; decide) (hGb w0) (bs_one l) (by simp [flat, bs]; omega) ?_
  repeat (refine Plan.assign rfl rfl rfl rfl ?_)
  refine J.ret (Nrm.ret1 rfl (fun _ h => h) rfl fun B hB => Sub.ownLower hB)

theorem crc_Seal (l : List UInt8) (hl : l.length ≤ 140737488355320) : Spc Try.prog 53 [bytesF l] fun B => ownB B (crcSeal l) := by
  refine Spc.intro Try.func53 rfl (Nat.le_of_ble_eq_true rfl) fun w0 => ?_
  have hI := hIb w0
  refine J.seq (J.region mixed hI (by kernel_rfl) ?_)
  repeat (refine Plan.assign rfl rfl rfl rfl ?_)
  refine J.seq (J.region mixed hI (by kernel_rfl) ?_)
  repeat (refine Plan.move rfl rfl rfl rfl ?_)
  refine Plan.call (B := w0.heap.size) rfl rfl rfl (crc_Of l (by omega)) Try.func73 rfl rfl (hBb w0) (Opnds.cons rfl (Sub.old fun _ h => h) Opnds.nil) ?_
  repeat (refine Plan.assign rfl rfl rfl rfl ?_)
  refine J.seq (J.region mixed hI (by kernel_rfl) ?_)
  repeat (refine Plan.move rfl rfl rfl rfl ?_)
  refine Plan.lenRow rfl rfl rfl rfl (Sub.old fun _ h => h) Try.underlying27 (m := l.length) (by simp [bs]) (by decide) ?_
  repeat (refine Plan.ints rfl rfl rfl rfl rfl rfl ?_)
  refine Plan.int (y := ((l.length + 2 : Nat) : Int)) (by rw [i64r (by omega)]; omega) ?_
  refine Plan.make0 (B := w0.heap.size) rfl rfl rfl rfl rfl eltB (hBb w0) (by omega) ?_
  repeat (refine Plan.move rfl rfl rfl rfl ?_)
  refine Plan.append rfl rfl rfl rfl (Sub.refl _) rfl (Sub.old fun _ h => h) eltB (by intro d hd; cases hd; decide) (hGb w0) (bs_one l) (by simp [bs]; omega) ?_
  repeat (first | refine Plan.move rfl rfl rfl rfl ?_ | refine Plan.shift rfl rfl rfl rfl rfl rfl ?_)
  refine Plan.int (u16_shr _ 8) ?_
  refine Plan.convInt rfl rfl rfl rfl Try.underlying118 Try.underlying5 ?_
  refine Plan.int (u8_of _) ?_
  repeat (refine Plan.move rfl rfl rfl rfl ?_)
  refine Plan.convInt rfl rfl rfl rfl Try.underlying118 Try.underlying5 ?_
  refine Plan.int (u8_of _) ?_
  refine Plan.lit (B := w0.heap.size) rfl rfl rfl eltB rfl (hBb w0) rfl (by simp [Value.cells]) (by decide) ?_
  refine Plan.append (news := bs [hi8 (crcOf l), lo8 (crcOf l)]) rfl rfl rfl rfl (Sub.refl _) rfl Sub.own eltB (by intro d hd; cases hd; decide) (hGb w0) (bs_one _) (by simp [bs]; omega) ?_
  repeat (refine Plan.assign rfl rfl rfl rfl ?_)
  refine J.ret (Nrm.ret1 rfl (fun _ h => h) rfl fun B hB => Sub.trans (Sub.of_eq ?_) (Sub.ownLower hB))
  rw [List.nil_append, ← bs_append]; rfl

theorem crc_Open (l : List UInt8) (hl : l.length ≤ 140737488355320) : Spc Try.prog 69 [bytesF l] fun B => .tup [ownB B ((crcOpen l).getD []), .ex (.bool (crcOpen l).isSome)] := by
  refine Spc.intro Try.func69 rfl (Nat.le_of_ble_eq_true rfl) fun w0 => ?_
  have hI := hIb w0
  refine J.seq (J.region mixed hI (by kernel_rfl) ?_)
  repeat (refine Plan.assign rfl rfl rfl rfl ?_)
  refine J.seq (J.region mixed hI (by kernel_rfl) ?_)
  repeat (refine Plan.move rfl rfl rfl rfl ?_)
  refine Plan.lenRow rfl rfl rfl rfl (Sub.old fun _ h => h) Try.underlying27 (m := l.length) (by simp [bs]) (by decide) ?_
  refine Plan.ints rfl rfl rfl rfl rfl rfl ?_
  rcases Nat.lt_or_ge l.length 2 with hlt | hge
  · have hno : crcOpen l = none := by unfold crcOpen; rw [if_neg (by omega)]
    rw [hno]
    refine Plan.int (i64r (by omega)) ?_
    repeat (refine Plan.assign rfl rfl rfl rfl ?_)
    refine J.seq (J.seq (J.region mixed hI (by kernel_rfl) ?_))
    refine Plan.move rfl rfl rfl rfl ?_
    refine Plan.ints rfl rfl rfl rfl rfl rfl ?_
    refine Plan.boolv (y := true) (by simp; omega) ?_
    repeat (first | refine Plan.move rfl rfl rfl rfl ?_ | refine Plan.skip rfl rfl ?_ | refine Plan.pick rfl rfl rfl rfl rfl ?_)
    refine J.cond rfl (fun _ => ?_) (fun h => by cases h)
    refine J.seq (J.region mixed hI (by kernel_rfl) ?_)
    repeat (refine Plan.assign rfl rfl rfl rfl ?_)
    refine J.ret (Nrm.ret2 rfl (fun _ h => h) fun B hB => ⟨_, rfl, Ress.cons rfl (Sub.nilOwn fun w h => Nat.le_trans hB (hBb w0 w h)) (Ress.cons rfl (Sub.refl _) Ress.nil)⟩)
  · have htk : (l.take (l.length - 2)).length = l.length - 2 := by rw [List.length_take]; omega
    refine Plan.int (y := ((l.length - 2 : Nat) : Int)) (by rw [i64r (by omega)]; omega) ?_
    repeat (refine Plan.assign rfl rfl rfl rfl ?_)
    refine J.seq (J.seq (J.region mixed hI (by kernel_rfl) ?_))
    refine Plan.move rfl rfl rfl rfl ?_
    refine Plan.ints rfl rfl rfl rfl rfl rfl ?_
    refine Plan.boolv (y := false) (by simp) ?_
    repeat (refine Plan.move rfl rfl rfl rfl ?_)
    refine Plan.sliceRow (m := l.length) (a0 := 0) (b0 := l.length - 2) rfl rfl rfl rfl (Sub.old fun _ h => h) eltB (by simp [bs]) (.inl ⟨rfl, rfl⟩) (.inr ⟨_, _, rfl, rfl⟩) (Nat.zero_le _) (by omega) ?_
    refine Plan.call (B := w0.heap.size) rfl rfl rfl (crc_Of (l.take (l.length - 2)) (by omega)) Try.func73 rfl rfl (hBb w0) (Opnds.cons rfl (Sub.of_eq (by simp [bytesF, bs, List.map_take])) Opnds.nil) ?_
    repeat (refine Plan.move rfl rfl rfl rfl ?_)
    refine Plan.indexAddr (fun b : UInt8 => [.int .u8 b.toNat]) 1 l 0 rfl rfl rfl rfl (Sub.trans (Sub.old fun _ h => h) (Sub.rowEq (bs_flat l) (Sub.refl _))) rfl eltB (fun _ => rfl) (by omega) (by omega) ?_
    refine Plan.load rfl rfl rfl rfl (Sub.refl _) Try.underlying5 rfl ?_
    refine Plan.convInt rfl rfl rfl rfl Try.underlying5 Try.underlying118 ?_
    refine Plan.int (u16_lift _) ?_
    refine Plan.shift rfl rfl rfl rfl rfl rfl ?_
    refine Plan.int (u16_shl _ 8) ?_
    repeat (first | refine Plan.move rfl rfl rfl rfl ?_ | refine Plan.ints rfl rfl rfl rfl rfl rfl ?_)
    refine Plan.int (y := ((l.length - 1 : Nat) : Int)) (by rw [i64r (by omega)]; omega) ?_
    refine Plan.indexAddr (fun b : UInt8 => [.int .u8 b.toNat]) 1 l 0 rfl rfl rfl rfl (Sub.trans (Sub.old fun _ h => h) (Sub.rowEq (bs_flat l) (Sub.refl _))) rfl eltB (fun _ => rfl) (by omega) (by omega) ?_
    refine Plan.load rfl rfl rfl rfl (Sub.refl _) Try.underlying5 rfl ?_
    refine Plan.convInt rfl rfl rfl rfl Try.underlying5 Try.underlying118 ?_
    refine Plan.int (u16_lift _) ?_
    refine Plan.ints rfl rfl rfl rfl rfl rfl ?_
    refine Plan.int (u16_or _ _) ?_
    refine Plan.ints rfl rfl rfl rfl rfl rfl ?_
    refine Plan.boolv (bne16 _ _) ?_
    repeat (refine Plan.pick rfl rfl rfl rfl rfl ?_)
    have hj : ((lift16 (l.getD (((l.length - 2 : Nat) : Int)).toNat 0) <<< 8) ||| lift16 (l.getD (((l.length - 1 : Nat) : Int)).toNat 0)) = join16 (l.getD (l.length - 2) 0) (l.getD (l.length - 1) 0) := by
      simp only [Int.toNat_natCast]; rfl
    rw [hj]
    refine J.cond rfl (fun hc => ?_) (fun hc => ?_)
    · have hno : crcOpen l = none := by
        unfold crcOpen; rw [if_neg]
        rintro ⟨_, h⟩
        rw [h] at hc
        simp at hc
      rw [hno]
      refine J.seq (J.region mixed hI (by kernel_rfl) ?_)
      repeat (refine Plan.assign rfl rfl rfl rfl ?_)
      refine J.ret (Nrm.ret2 rfl (fun _ h => h) fun B hB => ⟨_, rfl, Ress.cons rfl (Sub.nilOwn fun w h => Nat.le_trans hB (hBb w0 w h)) (Ress.cons rfl (Sub.refl _) Ress.nil)⟩)
    · have hyes : crcOpen l = some (l.take (l.length - 2)) := by
        unfold crcOpen; rw [if_pos]
        exact ⟨hge, by simpa using hc⟩
      rw [hyes]
      refine J.skip ?_
      refine J.seq (J.region mixed hI (by kernel_rfl) ?_)
      repeat (refine Plan.move rfl rfl rfl rfl ?_)
      refine Plan.sliceRow (m := l.length) (a0 := 0) (b0 := l.length - 2) rfl rfl rfl rfl (Sub.old fun _ h => h) eltB (by simp [bs]) (.inl ⟨rfl, rfl⟩) (.inr ⟨_, _, rfl, rfl⟩) (Nat.zero_le _) (by omega) ?_
      refine Plan.call (B := w0.heap.size) rfl rfl rfl (bytes_Clone (l.take (l.length - 2)) (by omega)) Try.func32 rfl rfl (hBb w0) (Opnds.cons rfl (Sub.of_eq (by simp [bytesF, bs, List.map_take])) Opnds.nil) ?_
      repeat (refine Plan.assign rfl rfl rfl rfl ?_)
      refine J.ret (Nrm.ret2 rfl (fun _ h => h) fun B hB => ⟨_, rfl, Ress.cons rfl (Sub.ownLower hB) (Ress.cons rfl (Sub.refl _) Ress.nil)⟩)
end Go.Proofs.Ytepgphflnelpoaa
end

section
set_option linter.unusedSimpArgs false
set_option linter.unusedVariables false
set_option maxRecDepth 20000
namespace Go.Proofs.Ytepgphflnelpoaa
open Go.Free Go.RowKit Go.Proofs

theorem xor_i64 (a b : Nat) (ha : a < 65536) (hb : b < 65536) : IntKind.i64.wrap ((BitVec.ofInt IntKind.i64.bits (a : Int) ^^^ BitVec.ofInt IntKind.i64.bits (b : Int)).toNat : Int) = ((a ^^^ b : Nat) : Int) := by
  have h : (BitVec.ofInt IntKind.i64.bits (a : Int) ^^^ BitVec.ofInt IntKind.i64.bits (b : Int)).toNat = a ^^^ b := by
    show (BitVec.ofInt 64 (a : Int) ^^^ BitVec.ofInt 64 (b : Int)).toNat = a ^^^ b
    rw [BitVec.toNat_xor, ofInt_u64 a (by omega), ofInt_u64 b (by omega)]
  have hlt : a ^^^ b < 2 ^ 16 := Nat.xor_lt_two_pow ha hb
  rw [h, i64r (by omega)]
theorem ref_in (n : BitVec 16) (c : UInt8) : IntKind.i64.wrap ((BitVec.ofInt IntKind.i64.bits (n.toNat : Int) ^^^ BitVec.ofInt IntKind.i64.bits (IntKind.i64.wrap (IntKind.i64.wrap (c.toNat : Int) * 256))).toNat : Int) = (n ^^^ (lift16 c <<< 8)).toNat := by
  have hc := c.toNat_lt
  have hl : (lift16 c <<< 8).toNat = c.toNat * 256 := by
    simp only [lift16, BitVec.toNat_shiftLeft, BitVec.toNat_setWidth, UInt8.toNat_toBitVec, Nat.shiftLeft_eq]
    omega
  rw [i64r (x := (c.toNat : Int)) (by omega), i64r (x := (c.toNat : Int) * (256 : Int)) (by omega)]
  rw [show (c.toNat : Int) * (256 : Int) = ((lift16 c <<< 8).toNat : Int) by rw [hl]; omega]
  rw [xor_i64 _ _ n.isLt (lift16 c <<< 8).isLt, BitVec.toNat_xor]
theorem step_lo (n : BitVec 16) (h : n.toNat * 2 ≤ 65535) : (crcStep n).toNat = n.toNat * 2 := by
  have h1 : n >>> 15 = 0#16 := by
    apply BitVec.eq_of_toNat_eq
    rw [BitVec.toNat_ushiftRight, Nat.shiftRight_eq_div_pow]
    simp; omega
  simp only [crcStep, h1]
  rw [BitVec.toNat_xor, BitVec.toNat_mul, BitVec.toNat_shiftLeft, Nat.shiftLeft_eq]
  simp
  omega
theorem step_hi (n : BitVec 16) (h : 65535 < n.toNat * 2) : (crcStep n).toNat = (n.toNat * 2 - 65536) ^^^ 4129 := by
  have hn := n.isLt
  have h1 : n >>> 15 = 1#16 := by
    apply BitVec.eq_of_toNat_eq
    rw [BitVec.toNat_ushiftRight, Nat.shiftRight_eq_div_pow]
    simp; omega
  simp only [crcStep, h1]
  rw [BitVec.toNat_xor, BitVec.toNat_mul, BitVec.toNat_shiftLeft, Nat.shiftLeft_eq]
  have e : n.toNat * 2 ^ 1 % 2 ^ 16 = n.toNat * 2 - 65536 := by omega
  rw [e]
  rfl

def rcEnv (l : List UInt8) (j : Nat) : Env := [(0, .ex (str l)), (3, .ex (.int .i64 (crcOf (l.take j)).toNat)), (4, .ex (.int .i64 j))]
def rcEnv2 (l : List UInt8) (j : Nat) (m : BitVec 16) (q : Nat) : Env :=
  [(0, .ex (str l)), (3, .ex (.int .i64 (crcSteps q m).toNat)), (4, .ex (.int .i64 j)), (5, .ex (.int .i64 q))]

theorem ref_Of (l : List UInt8) (hl : l.length ≤ 9223372036854775806) : Spc Try.prog 85 [.ex (str l)] fun _ => .ex (.int .i64 (crcOf l).toNat) := by
  refine Spc.intro Try.func85 rfl (Nat.le_of_ble_eq_true rfl) fun w0 => ?_
  have hI := hIb w0
  refine J.seq (J.region mixed hI (by kernel_rfl) ?_)
  repeat (refine Plan.assign rfl rfl rfl rfl ?_)
  refine J.seq (J.region mixed hI (by kernel_rfl) ?_)
  repeat (refine Plan.assign rfl rfl rfl rfl ?_)
  refine J.seq (J.seq (J.region mixed hI (by kernel_rfl) ?_))
  repeat (refine Plan.assign rfl rfl rfl rfl ?_)
  refine J.block (J.loop (rcEnv l) (fun j => j ≤ l.length) (fun j => l.length - j) 0 (Nat.zero_le _) ?_ ?_)
  · exact Weak.cons rfl (Sub.refl _) (Weak.cons rfl (Sub.refl _) (Weak.cons rfl (Sub.refl _) Weak.nil))
  intro j hj
  refine J.seq (J.seq (J.region mixed hI (by kernel_rfl) ?_))
  repeat (first | refine Plan.move rfl rfl rfl rfl ?_ | refine Plan.ints rfl rfl rfl rfl rfl rfl ?_ | refine Plan.lenStr rfl rfl rfl rfl Try.underlying9 ?_)
  refine J.cond rfl (fun hc => ?_) (fun hc => ?_)
  · have hlt : j < l.length := by simpa using hc
    refine J.skip ?_
    refine J.seq (J.block ?_)
    refine J.seq (J.region mixed hI (by kernel_rfl) ?_)
    repeat (refine Plan.move rfl rfl rfl rfl ?_)
    refine Plan.index rfl rfl rfl rfl rfl Try.underlying9 (by omega) (by omega) ?_
    refine Plan.convInt rfl rfl rfl rfl Try.underlying5 Try.underlying3 ?_
    repeat (first | refine Plan.assign rfl rfl rfl rfl ?_ | refine Plan.ints rfl rfl rfl rfl rfl rfl ?_)
    refine Plan.int (ref_in _ _) ?_
    refine J.seq (J.region mixed hI (by kernel_rfl) ?_)
    repeat (refine Plan.assign rfl rfl rfl rfl ?_)
    refine J.block (J.loop (rcEnv2 l j (crcOf (l.take j) ^^^ (lift16 (l.getD j 0) <<< 8))) (fun q => q ≤ 8) (fun q => 8 - q) 0 (Nat.zero_le _) ?_ ?_)
    · exact Weak.cons rfl (Sub.refl _) (Weak.cons rfl (Sub.refl _) (Weak.cons rfl (Sub.refl _) (Weak.cons rfl (Sub.refl _) Weak.nil)))
    intro q hq
    refine J.seq (J.seq (J.region mixed hI (by kernel_rfl) ?_))
    repeat (first | refine Plan.move rfl rfl rfl rfl ?_ | refine Plan.ints rfl rfl rfl rfl rfl rfl ?_)
    refine J.cond rfl (fun hc2 => ?_) (fun hc2 => ?_)
    · have hlt2 : q < 8 := by have : (q : Int) < 8 := by simpa using hc2
                              omega
      refine J.skip ?_
      obtain ⟨m, hm⟩ : ∃ m, m = crcSteps q (crcOf (l.take j) ^^^ (lift16 (l.getD j 0) <<< 8)) := ⟨_, rfl⟩
      have hmlt := m.isLt
      refine J.weak [(0, .ex (str l)), (3, .ex (.int .i64 m.toNat)), (4, .ex (.int .i64 j)), (5, .ex (.int .i64 q))] ?_ ?_
      · exact Weak.cons rfl (Sub.refl _) (Weak.cons rfl (Sub.of_eq (by rw [hm])) (Weak.cons rfl (Sub.refl _) (Weak.cons rfl (Sub.refl _) Weak.nil)))
      refine J.seq (J.block ?_)
      have fin : Nrm Try.f85.ntmps (fun w => Below w0.heap.size w0 w) (fun a w => ∃ s', s' ≤ 8 ∧ 8 - s' < 8 - q ∧ Below w0.heap.size w0 w ∧ Sh Try.f85.ntmps a ∧ Sat (rcEnv2 l j (crcOf (l.take j) ^^^ (lift16 (l.getD j 0) <<< 8)) s') a w) (rcEnv2 l j (crcOf (l.take j) ^^^ (lift16 (l.getD j 0) <<< 8)) (q + 1)) :=
        fun a w h1 h2 h3 => ⟨q + 1, by omega, by omega, h1, h2, h3⟩
      refine J.seq (J.region mixed hI (by kernel_rfl) ?_)
      refine Plan.move rfl rfl rfl rfl ?_
      refine Plan.ints rfl rfl rfl rfl rfl rfl ?_
      refine Plan.int (y := ((m.toNat * 2 : Nat) : Int)) (by rw [i64r (by omega)]; omega) ?_
      repeat (refine Plan.assign rfl rfl rfl rfl ?_)
      refine J.seq (J.region mixed hI (by kernel_rfl) ?_)
      repeat (first | refine Plan.move rfl rfl rfl rfl ?_ | refine Plan.ints rfl rfl rfl rfl rfl rfl ?_)
      refine J.cond rfl (fun hc3 => ?_) (fun hc3 => ?_)
      · have h3 : 65535 < m.toNat * 2 := by have : (65535 : Int) < ((m.toNat * 2 : Nat) : Int) := by simpa using hc3
                                            omega
        refine (J.region mixed hI (by kernel_rfl) ?_)
        refine Plan.move rfl rfl rfl rfl ?_
        refine Plan.ints rfl rfl rfl rfl rfl rfl ?_
        refine Plan.int (y := ((m.toNat * 2 - 65536 : Nat) : Int)) (by rw [i64r (by omega)]; omega) ?_
        refine Plan.ints rfl rfl rfl rfl rfl rfl ?_
        refine Plan.int (xor_i64 _ 4129 (by omega) (by omega)) ?_
        repeat (refine Plan.assign rfl rfl rfl rfl ?_)
        refine (J.region mixed hI (by kernel_rfl) ?_)
        repeat (first | refine Plan.move rfl rfl rfl rfl ?_ | refine Plan.assign rfl rfl rfl rfl ?_ | refine Plan.ints rfl rfl rfl rfl rfl rfl ?_)
        refine Nrm.weak (rcEnv2 l j (crcOf (l.take j) ^^^ (lift16 (l.getD j 0) <<< 8)) (q + 1)) ?_ fin
        refine Weak.cons rfl (Sub.refl _) (Weak.cons rfl (Sub.of_eq ?_) (Weak.cons rfl (Sub.refl _) (Weak.cons rfl (Sub.of_eq (by rw [i64r (by omega)]; rfl)) Weak.nil)))
        rw [← step_hi m h3, hm]; rfl
      · have h3 : m.toNat * 2 ≤ 65535 := by have : ¬ (65535 : Int) < ((m.toNat * 2 : Nat) : Int) := by simpa using hc3
                                            omega
        refine J.skip ?_
        refine (J.region mixed hI (by kernel_rfl) ?_)
        repeat (first | refine Plan.move rfl rfl rfl rfl ?_ | refine Plan.assign rfl rfl rfl rfl ?_ | refine Plan.ints rfl rfl rfl rfl rfl rfl ?_)
        refine Nrm.weak (rcEnv2 l j (crcOf (l.take j) ^^^ (lift16 (l.getD j 0) <<< 8)) (q + 1)) ?_ fin
        refine Weak.cons rfl (Sub.refl _) (Weak.cons rfl (Sub.of_eq ?_) (Weak.cons rfl (Sub.refl _) (Weak.cons rfl (Sub.of_eq (by rw [i64r (by omega)]; rfl)) Weak.nil)))
        rw [← step_lo m h3, hm]; rfl
    · have hq8 : q = 8 := by have : ¬ (q : Int) < 8 := by simpa using hc2
                             omega
      subst hq8
      refine J.exit ?_
      refine (J.region mixed hI (by kernel_rfl) ?_)
      repeat (first | refine Plan.move rfl rfl rfl rfl ?_ | refine Plan.assign rfl rfl rfl rfl ?_ | refine Plan.ints rfl rfl rfl rfl rfl rfl ?_)
      refine Nrm.weak (rcEnv l (j + 1)) ?_ ?_
      · refine Weak.cons rfl (Sub.refl _) (Weak.cons rfl (Sub.of_eq ?_) (Weak.cons rfl (Sub.of_eq (by rw [i64r (by omega)]; rfl)) Weak.nil))
        rw [crcOf_take_succ l j hlt]; rfl
      · exact fun a w h1 h2 h3 => ⟨j + 1, hlt, by omega, h1, h2, h3⟩
  · have hge : j = l.length := by have : ¬ (j : Int) < l.length := by simpa using hc
                                  omega
    subst hge
    refine J.exit ?_
    refine J.seq (J.region mixed hI (by kernel_rfl) ?_)
    repeat (first | refine Plan.move rfl rfl rfl rfl ?_ | refine Plan.assign rfl rfl rfl rfl ?_)
    refine J.ret (Nrm.ret1 rfl (fun _ h => h) rfl fun B _ => Sub.of_eq ?_)
    rw [List.take_length]
end Go.Proofs.Ytepgphflnelpoaa
end

section
set_option linter.unusedSimpArgs false
set_option linter.unusedVariables false
set_option maxRecDepth 20000
namespace Go.Proofs.Ytepgphflnelpoaa
open Go.Free Go.RowKit Go.Proofs

theorem ref_Seal (l : List UInt8) (hl : l.length ≤ 9223372036854775000) : Spc Try.prog 68 [.ex (str l)] fun _ => .ex (str (crcSeal l)) := by
  refine Spc.intro Try.func68 rfl (Nat.le_of_ble_eq_true rfl) fun w0 => ?_
  have hI := hIb w0
  have hc := (crcOf l).isLt
  refine J.seq (J.region mixed hI (by kernel_rfl) ?_)
  repeat (refine Plan.assign rfl rfl rfl rfl ?_)
  refine J.seq (J.region mixed hI (by kernel_rfl) ?_)
  repeat (refine Plan.move rfl rfl rfl rfl ?_)
  refine Plan.call (B := 0) (R := fun _ => .ex (.int .i64 (crcOf l).toNat)) rfl rfl rfl (ref_Of l (by omega)) Try.func85 rfl rfl (fun _ _ => Nat.zero_le _) (Opnds.cons rfl (Sub.refl _) Opnds.nil) ?_
  repeat (refine Plan.assign rfl rfl rfl rfl ?_)
  refine J.seq (J.region mixed hI (by kernel_rfl) ?_)
  repeat (first | refine Plan.move rfl rfl rfl rfl ?_ | refine Plan.ints rfl rfl rfl rfl rfl rfl ?_)
  refine Plan.int (y := ((crcOf l >>> 8).toNat : Int)) ?_ ?_
  · rw [BitVec.toNat_ushiftRight, Nat.shiftRight_eq_div_pow, Int.tdiv_eq_ediv_of_nonneg (by omega), i64r (by omega)]; rfl
  refine Plan.convInt rfl rfl rfl rfl Try.underlying3 Try.underlying5 ?_
  refine Plan.int (u8_of _) ?_
  repeat (first | refine Plan.move rfl rfl rfl rfl ?_ | refine Plan.ints rfl rfl rfl rfl rfl rfl ?_)
  refine Plan.convInt rfl rfl rfl rfl Try.underlying3 Try.underlying5 ?_
  refine Plan.int (y := (lo8 (crcOf l)).toNat) ?_ ?_
  · rw [Int.tmod_eq_emod_of_nonneg (by omega)]
    have := u8_of (crcOf l)
    rw [IntKind.wrap_u8] at this ⊢
    rw [Int.emod_emod_of_dvd _ (by decide)]
    exact this
  refine Plan.lit (B := w0.heap.size) rfl rfl rfl eltB rfl (hBb w0) rfl (by simp [Value.cells]) (by decide) ?_
  refine Plan.convBS (p := [hi8 (crcOf l), lo8 (crcOf l)]) rfl rfl rfl rfl (Sub.trans Sub.own (Sub.refl _)) Try.underlying27 Try.underlying9 Try.underlying5 ?_
  refine Plan.concat rfl rfl rfl rfl rfl (by simp; omega) ?_
  repeat (refine Plan.assign rfl rfl rfl rfl ?_)
  refine J.ret (Nrm.ret1 rfl (fun _ h => h) rfl fun B _ => Sub.refl _)

theorem join_nat (a b : UInt8) : (join16 a b).toNat = a.toNat * 256 + b.toNat := by
  have h1 := a.toNat_lt
  have h2 := b.toNat_lt
  simp only [join16, lift16, BitVec.toNat_or, BitVec.toNat_shiftLeft, BitVec.toNat_setWidth, UInt8.toNat_toBitVec]
  have e1 : a.toNat % 2 ^ 16 = a.toNat := by omega
  have e2 : b.toNat % 2 ^ 16 = b.toNat := by omega
  rw [e1, e2]
  have e3 : a.toNat <<< 8 % 2 ^ 16 = a.toNat <<< 8 := by rw [Nat.shiftLeft_eq]; omega
  rw [e3, ← Nat.shiftLeft_add_eq_or_of_lt (by omega), Nat.shiftLeft_eq]
theorem hi_nat (n : BitVec 16) : UInt8.ofNat (n.toNat / 256) = hi8 n := by
  apply UInt8.toNat_inj.1
  have := n.isLt
  rw [UInt8.toNat_ofNat']
  simp only [hi8]
  show _ = ((n >>> 8).setWidth 8).toNat
  rw [BitVec.toNat_setWidth, BitVec.toNat_ushiftRight, Nat.shiftRight_eq_div_pow]
theorem lo_nat (n : BitVec 16) : UInt8.ofNat (n.toNat % 256) = lo8 n := by
  apply UInt8.toNat_inj.1
  rw [UInt8.toNat_ofNat']
  simp only [lo8]
  show _ = (n.setWidth 8).toNat
  rw [BitVec.toNat_setWidth]
  omega
theorem seal_open (l : List UInt8) : crcOpen l = if 2 ≤ l.length ∧ crcSeal (l.take (l.length - 2)) = l then some (l.take (l.length - 2)) else none := by
  unfold crcOpen
  by_cases h2 : 2 ≤ l.length
  · have hsplit : l = l.take (l.length - 2) ++ [l.getD (l.length - 2) 0, l.getD (l.length - 1) 0] := by
      have h1 : l.drop (l.length - 2) = [l.getD (l.length - 2) 0, l.getD (l.length - 1) 0] := by
        rw [List.drop_eq_getElem_cons (by omega), List.drop_eq_getElem_cons (by omega), List.drop_of_length_le (by omega)]
        simp only [List.getD_eq_getElem?_getD]
        rw [List.getElem?_eq_getElem (by omega), List.getElem?_eq_getElem (by omega)]
        simp only [Option.getD_some, List.cons.injEq, and_true, true_and]
        congr 1; omega
      calc l = l.take (l.length - 2) ++ l.drop (l.length - 2) := (List.take_append_drop _ _).symm
        _ = _ := by rw [h1]
    have hj : ∀ n a b, n = join16 a b ↔ hi8 n = a ∧ lo8 n = b := by
      intro n a b
      rw [← hi_nat, ← lo_nat, ← UInt8.toNat_inj, ← UInt8.toNat_inj]
      rw [show (n = join16 a b) ↔ n.toNat = (join16 a b).toNat from ⟨fun h => by rw [h], BitVec.eq_of_toNat_eq⟩, join_nat]
      have h1 := a.toNat_lt
      have h2 := b.toNat_lt
      have h3 := n.isLt
      rw [UInt8.toNat_ofNat', UInt8.toNat_ofNat']
      omega
    have : (crcOf (l.take (l.length - 2)) = join16 (l.getD (l.length - 2) 0) (l.getD (l.length - 1) 0)) ↔ crcSeal (l.take (l.length - 2)) = l := by
      rw [hj]
      constructor
      · rintro ⟨h3, h4⟩
        rw [crcSeal, h3, h4]; exact hsplit.symm
      · intro h
        have h5 := h.trans hsplit
        rw [crcSeal, List.append_cancel_left_eq] at h5
        simpa using h5
    simp only [h2, true_and, this]
  · simp [h2]
end Go.Proofs.Ytepgphflnelpoaa
end

section
set_option linter.unusedSimpArgs false
set_option linter.unusedVariables false
set_option maxRecDepth 20000
namespace Go.Proofs.Ytepgphflnelpoaa
open Go.Free Go.RowKit Go.Proofs

theorem strEq (a b : List UInt8) : (a == b) = decide (a = b) := by
  by_cases h : a = b <;> simp [h]

theorem ref_Open (l : List UInt8) (hl : l.length ≤ 9223372036854775000) : Spc Try.prog 78 [.ex (str l)] fun _ => .tup [.ex (str ((crcOpen l).getD [])), .ex (.bool (crcOpen l).isSome)] := by
  rw [seal_open]
  refine Spc.intro Try.func78 rfl (Nat.le_of_ble_eq_true rfl) fun w0 => ?_
  have hI := hIb w0
  refine J.seq (J.region mixed hI (by kernel_rfl) ?_)
  repeat (refine Plan.assign rfl rfl rfl rfl ?_)
  refine J.seq (J.seq (J.region mixed hI (by kernel_rfl) ?_))
  refine Plan.move rfl rfl rfl rfl ?_
  refine Plan.lenStr rfl rfl rfl rfl Try.underlying9 ?_
  refine Plan.ints rfl rfl rfl rfl rfl rfl ?_
  rcases Nat.lt_or_ge l.length 2 with hlt | hge
  · refine Plan.boolv (y := true) (by simp; omega) ?_
    repeat (first | refine Plan.move rfl rfl rfl rfl ?_ | refine Plan.skip rfl rfl ?_ | refine Plan.pick rfl rfl rfl rfl rfl ?_)
    refine J.cond rfl (fun _ => ?_) (fun h => by cases h)
    rw [if_neg (by omega)]
    refine J.seq (J.region mixed hI (by kernel_rfl) ?_)
    repeat (refine Plan.assign rfl rfl rfl rfl ?_)
    refine J.ret (Nrm.ret2 rfl (fun _ h => h) fun B hB => ⟨_, rfl, Ress.cons rfl (Sub.refl _) (Ress.cons rfl (Sub.refl _) Ress.nil)⟩)
  · refine Plan.boolv (y := false) (by simp; omega) ?_
    refine Plan.move rfl rfl rfl rfl ?_
    refine Plan.move rfl rfl rfl rfl ?_
    refine Plan.move rfl rfl rfl rfl ?_
    refine Plan.lenStr rfl rfl rfl rfl Try.underlying9 ?_
    refine Plan.ints rfl rfl rfl rfl rfl rfl ?_
    refine Plan.int (y := ((l.length - 2 : Nat) : Int)) (by rw [i64r (by omega)]; omega) ?_
    refine Plan.sliceStr (a0 := 0) (b0 := l.length - 2) rfl rfl rfl rfl Try.underlying9 (.inl ⟨rfl, rfl⟩) (.inr ⟨_, _, rfl, rfl⟩) (Nat.zero_le _) (by omega) ?_
    refine Plan.call (B := 0) (R := fun _ => .ex (str (crcSeal (l.take (l.length - 2))))) rfl rfl rfl (ref_Seal (l.take (l.length - 2)) (by rw [List.length_take]; omega)) Try.func68 rfl rfl (fun _ _ => Nat.zero_le _) (Opnds.cons rfl (Sub.of_eq (by simp)) Opnds.nil) ?_
    refine Plan.move rfl rfl rfl rfl ?_
    refine Plan.strs rfl rfl rfl rfl rfl rfl ?_
    refine Plan.boolv (by rw [strEq]) ?_
    repeat (refine Plan.pick rfl rfl rfl rfl rfl ?_)
    refine J.cond rfl (fun hc => ?_) (fun hc => ?_)
    · have hno : ¬ crcSeal (l.take (l.length - 2)) = l := by simpa using hc
      rw [if_neg (fun h => hno h.2)]
      refine J.seq (J.region mixed hI (by kernel_rfl) ?_)
      repeat (refine Plan.assign rfl rfl rfl rfl ?_)
      refine J.ret (Nrm.ret2 rfl (fun _ h => h) fun B hB => ⟨_, rfl, Ress.cons rfl (Sub.refl _) (Ress.cons rfl (Sub.refl _) Ress.nil)⟩)
    · have hyes : crcSeal (l.take (l.length - 2)) = l := by simpa using hc
      rw [if_pos ⟨hge, hyes⟩]
      refine J.skip ?_
      refine J.seq (J.region mixed hI (by kernel_rfl) ?_)
      repeat (first | refine Plan.move rfl rfl rfl rfl ?_ | refine Plan.ints rfl rfl rfl rfl rfl rfl ?_ | refine Plan.lenStr rfl rfl rfl rfl Try.underlying9 ?_)
      refine Plan.int (y := ((l.length - 2 : Nat) : Int)) (by rw [i64r (by omega)]; omega) ?_
      refine Plan.sliceStr (a0 := 0) (b0 := l.length - 2) rfl rfl rfl rfl Try.underlying9 (.inl ⟨rfl, rfl⟩) (.inr ⟨_, _, rfl, rfl⟩) (Nat.zero_le _) (by omega) ?_
      repeat (refine Plan.assign rfl rfl rfl rfl ?_)
      refine J.ret (Nrm.ret2 rfl (fun _ h => h) fun B hB => ⟨_, rfl, Ress.cons rfl (Sub.of_eq (by simp)) (Ress.cons rfl (Sub.refl _) Ress.nil)⟩)

theorem crc_Back_open (l : List UInt8) : crcOpen (crcSeal l) = some l := by
  have hlen : (crcSeal l).length = l.length + 2 := by simp [crcSeal]
  have ht : (crcSeal l).take ((crcSeal l).length - 2) = l := by rw [hlen]; simp [crcSeal]
  rw [seal_open, ht, if_pos ⟨by omega, rfl⟩]

end Go.Proofs.Ytepgphflnelpoaa
end

section
set_option linter.unusedSimpArgs false
set_option linter.unusedVariables false
set_option maxRecDepth 20000
namespace Go.Free
open Go.RowKit
section
variable {P : Program} {n : Nat} {I : World → Prop} {Q : Exit → Act → World → Prop} {E : Env} {ops : Array Oper} {k i : Nat} {d : Bool}
theorem J.condT {c : Operand} {x y : Code} (hc : opF E c = some (.ex (.bool true))) (h : J P n I x Q E) : J P n I (.cond c x y) Q E := J.cond hc (fun _ => h) (fun e => by cases e)
theorem J.condF {c : Operand} {x y : Code} (hc : opF E c = some (.ex (.bool false))) (h : J P n I y Q E) : J P n I (.cond c x y) Q E := J.cond hc (fun e => by cases e) (fun _ => h)
theorem J.condD {c : Operand} {x y : Code} {p : Prop} [Decidable p] (hc : opF E c = some (.ex (.bool (decide p)))) (ht : p → J P n I x Q E) (hf : ¬ p → J P n I y Q E) : J P n I (.cond c x y) Q E :=
  J.cond hc (fun h => ht (of_decide_eq_true h)) (fun h => hf (of_decide_eq_false h))
theorem J.condE {α : Type} [BEq α] [LawfulBEq α] {c : Operand} {x y : Code} {p q : α} (hc : opF E c = some (.ex (.bool (p == q)))) (ht : p = q → J P n I x Q E) (hf : p ≠ q → J P n I y Q E) : J P n I (.cond c x y) Q E :=
  J.cond hc (fun h => ht (eq_of_beq h)) (fun h => hf (by intro e; rw [e, beq_self_eq_true] at h; cases h))
theorem J.condN {α : Type} [BEq α] [LawfulBEq α] {c : Operand} {x y : Code} {p q : α} (hc : opF E c = some (.ex (.bool (p != q)))) (ht : p ≠ q → J P n I x Q E) (hf : p = q → J P n I y Q E) : J P n I (.cond c x y) Q E :=
  J.cond hc (fun h => ht (by intro e; rw [e, bne_self_eq_false] at h; cases h)) (fun h => hf (by simpa using h))
/-- A boolean that is not known: both ways. -/
theorem Plan.splitD {t : Nat} {p : Prop} [Decidable p] (ht : p → Plan P ops Q n I d k i ((t, .ex (.bool true)) :: E)) (hf : ¬ p → Plan P ops Q n I d k i ((t, .ex (.bool false)) :: E)) : Plan P ops Q n I d k i ((t, .ex (.bool (decide p))) :: E) := by
  by_cases h : p
  · have e : decide p = true := by simpa using h
    rw [e]; exact ht h
  · have e : decide p = false := by simpa using h
    rw [e]; exact hf h
theorem Plan.splitE {α : Type} [BEq α] [LawfulBEq α] [DecidableEq α] {t : Nat} {p q : α} (ht : p = q → Plan P ops Q n I d k i ((t, .ex (.bool true)) :: E)) (hf : p ≠ q → Plan P ops Q n I d k i ((t, .ex (.bool false)) :: E)) : Plan P ops Q n I d k i ((t, .ex (.bool (p == q))) :: E) := by
  by_cases h : p = q
  · have e : (p == q) = true := by simpa using h
    rw [e]; exact ht h
  · have e : (p == q) = false := by simpa using h
    rw [e]; exact hf h
theorem Plan.splitN {α : Type} [BEq α] [LawfulBEq α] [DecidableEq α] {t : Nat} {p q : α} (ht : p ≠ q → Plan P ops Q n I d k i ((t, .ex (.bool true)) :: E)) (hf : p = q → Plan P ops Q n I d k i ((t, .ex (.bool false)) :: E)) : Plan P ops Q n I d k i ((t, .ex (.bool (p != q))) :: E) := by
  by_cases h : p = q
  · have e : (p != q) = false := by simpa using h
    rw [e]; exact hf h
  · have e : (p != q) = true := by simpa using h
    rw [e]; exact ht h
theorem Plan.isT {t : Nat} {p : Prop} [Decidable p] (hp : p) (h : Plan P ops Q n I d k i ((t, .ex (.bool true)) :: E)) : Plan P ops Q n I d k i ((t, .ex (.bool (decide p))) :: E) := by
  have e : decide p = true := by simpa using hp
  rw [e]; exact h
theorem Plan.isF {t : Nat} {p : Prop} [Decidable p] (hp : ¬ p) (h : Plan P ops Q n I d k i ((t, .ex (.bool false)) :: E)) : Plan P ops Q n I d k i ((t, .ex (.bool (decide p))) :: E) := by
  have e : decide p = false := by simpa using hp
  rw [e]; exact h
theorem Plan.eqT {α : Type} [BEq α] [LawfulBEq α] {t : Nat} {p q : α} (hp : p = q) (h : Plan P ops Q n I d k i ((t, .ex (.bool true)) :: E)) : Plan P ops Q n I d k i ((t, .ex (.bool (p == q))) :: E) := by
  have e : (p == q) = true := by simpa using hp
  rw [e]; exact h
theorem Plan.eqF {α : Type} [BEq α] [LawfulBEq α] {t : Nat} {p q : α} (hp : p ≠ q) (h : Plan P ops Q n I d k i ((t, .ex (.bool false)) :: E)) : Plan P ops Q n I d k i ((t, .ex (.bool (p == q))) :: E) := by
  have e : (p == q) = false := by simpa using hp
  rw [e]; exact h
theorem Plan.neT {α : Type} [BEq α] [LawfulBEq α] {t : Nat} {p q : α} (hp : p ≠ q) (h : Plan P ops Q n I d k i ((t, .ex (.bool true)) :: E)) : Plan P ops Q n I d k i ((t, .ex (.bool (p != q))) :: E) := by
  have e : (p != q) = true := by simpa using hp
  rw [e]; exact h
theorem Plan.neF {α : Type} [BEq α] [LawfulBEq α] {t : Nat} {p q : α} (hp : p = q) (h : Plan P ops Q n I d k i ((t, .ex (.bool false)) :: E)) : Plan P ops Q n I d k i ((t, .ex (.bool (p != q))) :: E) := by
  have e : (p != q) = false := by simpa using hp
  rw [e]; exact h
theorem Plan.lenB {t e : TypeId} {x : Operand} {g : Fa} {l : List UInt8} {o : Oper} (ho : ops[i]? = some o) (hop : o.op = .call { callee := .builtin .len, args := #[x], argTypes := #[t] }) (hg : wantB ops E o = some true)
    (hx : opF E x = some g) (hs : Sub I g (bytesF l)) (hu : P.underlying t = some (.slice e))
    (h : Plan P ops Q n I d k (i + 1) (setE o.dst (.ex (.int .i64 l.length)) E)) : Plan P ops Q n I d (k + 1) i E :=
  Plan.lenRow (m := l.length) ho hop hg hx hs hu (by simp [bs]) (by decide) h
theorem Plan.sliceB {t e : TypeId} {x : Operand} {lo hi : Option Operand} {g : Fa} {l : List UInt8} {a0 b0 : Nat} {o : Oper} (ho : ops[i]? = some o) (hop : o.op = .slice t x lo hi none)
    (hg : wantB ops E o = some true) (hx : opF E x = some g) (hs : Sub I g (bytesF l)) (he : Elt P t e (.int .u8 0) 1 1)
    (hlo : (lo = none ∧ a0 = 0) ∨ ∃ y kd, lo = some y ∧ opF E y = some (.ex (.int kd a0))) (hhi : (hi = none ∧ b0 = l.length) ∨ ∃ y kd, hi = some y ∧ opF E y = some (.ex (.int kd b0)))
    (hab : a0 ≤ b0) (hbm : b0 ≤ l.length)
    (h : Plan P ops Q n I d k (i + 1) (setE o.dst (bytesF ((l.take b0).drop a0)) E)) : Plan P ops Q n I d (k + 1) i E := by
  refine Plan.sliceRow (m := l.length) ho hop hg hx hs he (by simp [bs]) hlo hhi hab hbm ?_
  have e : ((bs l).take (b0 * 1)).drop (a0 * 1) = bs ((l.take b0).drop a0) := by rw [Nat.mul_one, Nat.mul_one]; simp [bs, List.map_drop, List.map_take]
  rw [e]; exact h
theorem Plan.indexB {t e : TypeId} {x y : Operand} {g : Fa} {l : List UInt8} {kd : IntKind} {q : Nat} {o : Oper} (ho : ops[i]? = some o) (hop : o.op = .indexAddr t x y)
    (hg : wantB ops E o = some true) (hx : opF E x = some g) (hs : Sub I g (bytesF l)) (hy : opF E y = some (.ex (.int kd (q : Int)))) (he : Elt P t e (.int .u8 0) 1 1) (h1 : q < l.length)
    (h : Plan P ops Q n I d k (i + 1) (setE o.dst (ptrF [.int .u8 (l.getD q 0).toNat]) E)) : Plan P ops Q n I d (k + 1) i E :=
  Plan.indexAddr (fun b : UInt8 => [.int .u8 b.toNat]) 1 l 0 ho hop hg hx (Sub.rowEq (bs_flat _) hs) hy he (fun _ => rfl) (Int.natCast_nonneg q) (Int.ofNat_lt.2 h1) h
theorem Plan.indexS {t : TypeId} {x y : Operand} {p : List UInt8} {kd : IntKind} {q : Nat} {o : Oper} (ho : ops[i]? = some o) (hop : o.op = .index t x y) (hg : wantB ops E o = some true)
    (hx : opF E x = some (.ex (str p))) (hy : opF E y = some (.ex (.int kd (q : Int)))) (hu : P.underlying t = some .string) (h1 : q < p.length)
    (h : Plan P ops Q n I d k (i + 1) (setE o.dst (.ex (.int .u8 (p.getD q 0).toNat)) E)) : Plan P ops Q n I d (k + 1) i E :=
  Plan.index ho hop hg hx hy hu (Int.natCast_nonneg q) (Int.ofNat_lt.2 h1) h
/-- A round's end: what the next round begins with. -/
theorem Nrm.next {σ : Type} {Ev : σ → Env} {ok : σ → Prop} {m : σ → Nat} {s : σ} (s' : σ) (hok : ok s') (hm : m s' < m s) (h : Weak I E (Ev s')) : Nrm n I (fun a w => ∃ s', ok s' ∧ m s' < m s ∧ I w ∧ Sh n a ∧ Sat (Ev s') a w) E :=
  fun _ _ h1 h2 h3 => ⟨s', hok, hm, h1, h2, h.sat h1 h3⟩
end
end Go.Free
namespace Go.Proofs.Ytepgphflnelpoaa
open Go.Free Go.RowKit Go.Proofs
theorem u64r {x : Int} (h : 0 ≤ x ∧ x ≤ 18446744073709551615) : IntKind.u64.wrap x = x := by rw [IntKind.wrap_u64]; omega
theorem u16r {x : Int} (h : 0 ≤ x ∧ x ≤ 65535) : IntKind.u16.wrap x = x := by rw [IntKind.wrap_u16]; omega
theorem fdivN (x k : Nat) : (x : Int).fdiv (2 ^ k) = ((x / 2 ^ k : Nat) : Int) := by
  rw [Int.fdiv_eq_ediv_of_nonneg _ (by exact Int.le_of_lt (Int.pow_pos (by decide)))]
  simp
theorem u8N (x : Nat) : IntKind.u8.wrap (x : Int) = ((x % 256 : Nat) : Int) := by rw [IntKind.wrap_u8]; omega
theorem quoN {x y : Nat} (h : x ≤ 9223372036854775807) : IntKind.i64.wrap ((x : Int).tdiv (OfNat.ofNat y : Int)) = ((x / (OfNat.ofNat y : Nat) : Nat) : Int) := by
  rw [show (x : Int).tdiv (OfNat.ofNat y : Int) = ((x / (OfNat.ofNat y : Nat) : Nat) : Int) from Int.ofNat_tdiv x y]
  have := Nat.div_le_self x (OfNat.ofNat y : Nat)
  generalize x / (OfNat.ofNat y : Nat) = q at this ⊢
  exact i64r (by omega)
theorem remN (x y : Nat) : (x : Int).tmod (OfNat.ofNat y : Int) = ((x % (OfNat.ofNat y : Nat) : Nat) : Int) := Int.ofNat_tmod x y
theorem or256 (x y : Nat) (hx : x < 65536) (hy : y < 256) : IntKind.i64.wrap ((BitVec.ofInt IntKind.i64.bits ((x * 256 : Nat) : Int) ||| BitVec.ofInt IntKind.i64.bits (y : Int)).toNat : Int) = ((x * 256 + y : Nat) : Int) := by
  have e : (BitVec.ofInt IntKind.i64.bits ((x * 256 : Nat) : Int) ||| BitVec.ofInt IntKind.i64.bits (y : Int)).toNat = x * 256 + y := by
    show (BitVec.ofInt 64 ((x * 256 : Nat) : Int) ||| BitVec.ofInt 64 (y : Int)).toNat = _
    rw [BitVec.toNat_or, BitVec.ofInt_natCast, BitVec.ofInt_natCast, BitVec.toNat_ofNat, BitVec.toNat_ofNat, Nat.mod_eq_of_lt (by omega), Nat.mod_eq_of_lt (by omega)]
    have := Nat.shiftLeft_add_eq_or_of_lt (a := x) (b := y) (i := 8) (by omega)
    rw [Nat.shiftLeft_eq] at this
    exact this.symm
  rw [e, i64r (by omega)]
theorem i64u8 (c : UInt8) : IntKind.i64.wrap (c.toNat : Int) = c.toNat := i64r (by have := c.toNat_lt; omega)
theorem bsSet (l : List UInt8) (j : Nat) (c : UInt8) : (bs l).set j (.int .u8 c.toNat) = bs (l.set j c) := by simp [bs, List.map_set]
theorem madeBs (n : Nat) : (madeCells (Value.int .u8 0).cells (n * 1)).toList = bs (List.replicate n 0) := by
  have : (Value.int .u8 0).cells = #[.int .u8 0] := rfl
  rw [this, toList_madeCells_one, Nat.mul_one]
  simp [bs]
theorem u8r {x : Int} (h : 0 ≤ x ∧ x ≤ 255) : IntKind.u8.wrap x = x := by rw [IntKind.wrap_u8]; omega
end Go.Proofs.Ytepgphflnelpoaa
end
