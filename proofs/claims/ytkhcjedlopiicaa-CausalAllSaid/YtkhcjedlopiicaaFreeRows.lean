/-
  Slices that are read, rows of the call own, calls by contracts, conversions between strings and bytes.
-/
import Derived.Test.YtkhcjedlopiicaaFreeSteps
set_option linter.unusedSimpArgs false
set_option linter.unusedVariables false
set_option maxRecDepth 20000
namespace Go.Free
open Go.RowKit

/-! ### Slices that are read -/
/-- v is a slice of elements of sz cells each, whose cells read cs. -/
def rowH (sz : Nat) (cs : List Value) (w : World) (v : Value) : Prop :=
  ∃ A n c, v = .slice A n c ∧ n ≤ c ∧ c ≤ 9223372036854775807 ∧ cs.length = n * sz ∧ (A = none → c = 0) ∧ (∀ j u, cs[j]? = some u → ∃ ad, A = some ad ∧ w.cell? (ad.add j) = some u)

theorem rowH_mono {sz : Nat} {cs : List Value} {w w' : World} {v : Value} (hb : Below w.heap.size w w') (h : rowH sz cs w v) : rowH sz cs w' v := by
  obtain ⟨A, n, c, rfl, h1, h2, h3, h5, h4⟩ := h
  refine ⟨A, n, c, rfl, h1, h2, h3, h5, fun j u hu => ?_⟩
  obtain ⟨ad, rfl, hc⟩ := h4 j u hu
  exact ⟨ad, rfl, (hb.cell (World.block_lt_of_cell? w _ hc)).trans hc⟩

def rowP (sz : Nat) (cs : List Value) : Pd := ⟨rowH sz cs, fun _ _ _ hb h => rowH_mono hb h⟩
def row (sz : Nat) (cs : List Value) : Fa := .is (rowP sz cs)

/-- The cells of bytes. -/
def bs (l : List UInt8) : List Value := l.map fun b => .int .u8 b.toNat
theorem bs_length (l : List UInt8) : (bs l).length = l.length := by simp [bs]
theorem bs_append (l m : List UInt8) : bs (l ++ m) = bs l ++ bs m := by simp [bs]
theorem bs_one (l : List UInt8) : ∀ u ∈ bs l, u.oneCell' = true := by
  intro u hu
  simp only [bs, List.mem_map] at hu
  obtain ⟨b, _, rfl⟩ := hu
  rfl
def bytesF (l : List UInt8) : Fa := row 1 (bs l)

/-! ### Rows of the call's own -/
def ownH (B e sz : Nat) (cs : List Value) (w : World) (v : Value) : Prop := B ≤ w.heap.size ∧ ∃ n, w.ownsRow B e sz v n cs
theorem ownH_mono {B e sz : Nat} {cs : List Value} {w w' : World} {v : Value} (hb : Below w.heap.size w w') (h : ownH B e sz cs w v) : ownH B e sz cs w' v := by
  obtain ⟨hB, n, hn⟩ := h
  exact ⟨Nat.le_trans hB hb.size, n, hn.kept (row := none) ⟨hb.os, hb.tape, hb.output, hb.size, fun i hi _ => hb.block i hi⟩ (by cases v.ownBlock <;> simp)⟩
def own (B e sz : Nat) (cs : List Value) : Fa := .is ⟨ownH B e sz cs, fun _ _ _ hb h => ownH_mono hb h⟩

theorem own_row {B e sz : Nat} {cs : List Value} {w : World} {v : Value} (h : ownH B e sz cs w v) : rowH sz cs w v := by
  obtain ⟨_, n, hn⟩ := h
  have hlen := hn.1
  rcases hn.2 with ⟨rfl, rfl⟩ | ⟨g, cap, cur, rfl, hb, hh, h1, h2, h3, h4⟩
  · exact ⟨none, 0, 0, rfl, Nat.le_refl _, by omega, hlen, fun _ => rfl, fun j u hu => by
      have : cs = [] := List.eq_nil_of_length_eq_zero (by simpa using hlen)
      simp [this] at hu⟩
  · exact ⟨_, n, cap, rfl, h1, by simpa [maxLen] using h2, hlen, (fun h => by cases h), fun j u hu => ⟨_, rfl, hn.cells (g := g) rfl j u hu⟩⟩

theorem own_lower {B B' e sz : Nat} {cs : List Value} {w : World} {v : Value} (h : ownH B e sz cs w v) (hB : B' ≤ B) : ownH B' e sz cs w v := by
  obtain ⟨h0, n, hlen, hn⟩ := h
  refine ⟨Nat.le_trans hB h0, n, hlen, ?_⟩
  rcases hn with h1 | ⟨g, cap, cur, rfl, hb, rest⟩
  · exact .inl h1
  · exact .inr ⟨g, cap, cur, rfl, Nat.le_trans hB hb, rest⟩

/-! ### Facts that follow -/
def Sub (I : World → Prop) (g f : Fa) : Prop := ∀ w v, I w → g.den w v → f.den w v
theorem Sub.refl {I : World → Prop} (f : Fa) : Sub I f f := fun _ _ _ h => h
theorem Sub.own {I : World → Prop} {B e sz : Nat} {cs : List Value} : Sub I (Free.own B e sz cs) (row sz cs) := fun _ _ _ h => by
  simp only [Free.own, row, rowP, Fa.den] at h ⊢; exact own_row h

/-- What held of a value at the call's begin. -/
abbrev old (w0 : World) (f : Fa) : Fa := .old w0 f
theorem Sub.old {I : World → Prop} {w0 : World} {f : Fa} (hI : ∀ w, I w → Below w0.heap.size w0 w) : Sub I (Free.old w0 f) f := fun w v hw h => by
  simp only [Fa.den] at h; exact Fa.mono f w0 w v (hI w hw) h
theorem Sub.oldOwn {I : World → Prop} {w0 : World} {B e sz : Nat} {cs : List Value} (hI : ∀ w, I w → Below w0.heap.size w0 w) : Sub I (Free.old w0 (Free.own B e sz cs)) (row sz cs) :=
  fun w v hw h => Sub.own w v hw (Sub.old hI w v hw h)

/-! ### Functions -/
/-- Called with what meets As, the function returns what meets R (whatever bound B on what is its own), old memory as it was. -/
def Spc (P : Program) (f : FuncId) (As : List Fa) (R : Nat → Fa) : Prop :=
  ∀ (w : World) (args : List Value), Fa.dens As w args → Calls P f args.toArray w fun e w' => ∃ v, e = .returned v ∧ Below w.heap.size w w' ∧ ∀ B, B ≤ w.heap.size → (R B).den w' v

section
variable {P : Program} {ops : Array Oper} {Q : Exit → Act → World → Prop} {n : Nat} {I : World → Prop} {k i : Nat} {E : Env} {o : Oper} {d : Bool}

/-- The operands' facts, one by one. -/
def Opnds (I : World → Prop) (E : Env) : List Operand → List Fa → Prop
  | [], fs => fs = []
  | x :: xs, fs => ∃ g f r, opF E x = some g ∧ Sub I g f ∧ fs = f :: r ∧ Opnds I E xs r
theorem Opnds.nil : Opnds I E [] [] := rfl
theorem Opnds.cons {x : Operand} {xs : List Operand} {g f : Fa} {r : List Fa} (h : opF E x = some g) (hs : Sub I g f) (hr : Opnds I E xs r) : Opnds I E (x :: xs) (f :: r) := ⟨g, f, r, h, hs, rfl, hr⟩
theorem Opnds.dens {w : World} (hI : I w) : ∀ {xs : List Operand} {fs : List Fa} {a : Act}, Opnds I E xs fs → (∀ x, x ∈ xs → ∀ f, opF E x = some f → f.den w (a.eval x)) → Fa.dens fs w (xs.map a.eval)
  | [], fs, _, h, _ => by simp only [Opnds] at h; subst h; simp [Fa.dens]
  | x :: xs, fs, a, h, hs => by
    obtain ⟨g, f, r, h1, h2, rfl, h3⟩ := h
    simp only [Fa.dens, List.map_cons]
    exact ⟨_, _, rfl, h2 w _ hI (hs x List.mem_cons_self g h1), Opnds.dens hI h3 fun y hy => hs y (List.mem_cons_of_mem _ hy)⟩

theorem Step.call {f : FuncId} {xs : List Operand} {ts : Array TypeId} {fs : List Fa} {R : Nat → Fa} {fn : Func} {B : Nat} (ho : ops[i]? = some o)
    (hop : o.op = .call { callee := .value (.func f), args := xs.toArray, argTypes := ts }) (hg : wantB ops E o = some true)
    (hf : P.funcs[f]? = some fn) (hbody : fn.body.isNone = false) (hname : (fn.name == "runtime.NumGoroutine") = false) (hB : ∀ w, I w → B ≤ w.heap.size)
    (hx : Opnds I E xs fs) (hc : Spc P f fs R) : Step P ops Q n I i E (R B) := by
  intro a w hI hsh hs
  unfold wpOp
  simp only [ho, wantB_spec ho hsh (fun t ht => hs t (.inl ht)) hg, if_true]
  refine .inl ?_
  unfold Oper.wp
  have hrun : (execOp a.eval o).run P w = .ok (.enter f (xs.map a.eval).toArray) w := by
    have hn : ¬ fn.name = "runtime.NumGoroutine" := by simpa using hname
    have hb : ¬ fn.body = none := by intro e; rw [e] at hbody; cases hbody
    simp [execOp, hop, resolve, invoke, callFunc, Deferred.ofValue, Act.eval, hf, hb, hn]
  rw [hrun]
  simp only [Oper.upon]
  have hd := Opnds.dens (a := a) hI hx (fun x hxm f hf => opF_den ho (by simp [hop, Op.operands, Call.operands, hxm]) (fun t ht => hs t (.inl ht)) hf)
  refine (hc w _ hd).mono ?_
  rintro e w' ⟨v, rfl, hb, hR⟩
  exact ⟨v, by rw [dst_of ho], hb, hR B (hB w hI)⟩

theorem Plan.call {f : FuncId} {xs : List Operand} {ts : Array TypeId} {fs : List Fa} {R : Nat → Fa} {fn : Func} {B : Nat} (ho : ops[i]? = some o)
    (hop : o.op = .call { callee := .value (.func f), args := xs.toArray, argTypes := ts }) (hg : wantB ops E o = some true) (hc : Spc P f fs R)
    (hf : P.funcs[f]? = some fn) (hbody : fn.body.isNone = false) (hname : (fn.name == "runtime.NumGoroutine") = false) (hB : ∀ w, I w → B ≤ w.heap.size)
    (hx : Opnds I E xs fs) (h : Plan P ops Q n I d k (i + 1) (setE o.dst (R B) E)) : Plan P ops Q n I d (k + 1) i E :=
  Plan.step ho (Step.call ho hop hg hf hbody hname hB hx hc) h

/-- A result out of a tuple. -/
theorem dens_get {w : World} : ∀ {l : List Fa} {xs : List Value} {j : Nat} {f : Fa}, Fa.dens l w xs → l[j]? = some f → ∃ v, xs[j]? = some v ∧ f.den w v
  | [], _, j, _, _, h => by simp at h
  | g :: l, xs, 0, f, hd, h => by
    simp only [Fa.dens] at hd
    obtain ⟨y, ys, rfl, h1, _⟩ := hd
    simp only [List.getElem?_cons_zero, Option.some.injEq] at h
    subst h
    exact ⟨y, rfl, h1⟩
  | g :: l, xs, j + 1, f, hd, h => by
    simp only [Fa.dens] at hd
    obtain ⟨y, ys, rfl, _, h2⟩ := hd
    simp only [List.getElem?_cons_succ] at h ⊢
    exact dens_get h2 h
theorem Plan.extract {x : Operand} {l : List Fa} {j : Nat} {f : Fa} (ho : ops[i]? = some o) (hop : o.op = .extract x j) (hg : wantB ops E o = some true)
    (hx : opF E x = some (.tup l)) (hj : l[j]? = some f) (h : Plan P ops Q n I d k (i + 1) (setE o.dst f E)) : Plan P ops Q n I d (k + 1) i E :=
  Plan.step ho (Step.run ho hg fun a w _ hs => by
    have h1 := hs x (by simp [hop, Op.operands]) _ hx
    simp only [Fa.den] at h1
    obtain ⟨xs, hxs, hd⟩ := h1
    obtain ⟨v, hv, hF⟩ := dens_get hd hj
    refine ⟨v, w, ?_, Below.refl _ _, hF⟩
    simp [execOp, hop, hxs, Instr.extract, hv]) h

/-! ### Operations on slices that are read -/
theorem Plan.lenRow {t e : TypeId} {x : Operand} {g : Fa} {sz m : Nat} {cs : List Value} (ho : ops[i]? = some o) (hop : o.op = .call { callee := .builtin .len, args := #[x], argTypes := #[t] }) (hg : wantB ops E o = some true)
    (hx : opF E x = some g) (hs : Sub I g (row sz cs)) (hu : P.underlying t = some (.slice e)) (hm : cs.length = m * sz) (hsz : 0 < sz)
    (h : Plan P ops Q n I d k (i + 1) (setE o.dst (.ex (.int .i64 m)) E)) : Plan P ops Q n I d (k + 1) i E :=
  Plan.step ho (Step.run ho hg fun a w hI hs' => by
    have h1 := hs w _ hI (hs' x (by simp [hop, Op.operands, Call.operands]) _ hx)
    obtain ⟨A, m', c, hv, _, _, hl, _, _⟩ := h1
    have : m' = m := Nat.eq_of_mul_eq_mul_right hsz (hl.symm.trans hm)
    subst this
    refine ⟨.int .i64 m', w, ?_, Below.refl _ _, by simp [Fa.den]⟩
    have hr : (Builtin.len_ #[t] o.type #[.slice A m' c]).run P w = .ok (goInt m') w := by simp [Builtin.len_, run_underlying hu]
    simp only [execOp, hop, resolve, invoke, builtin, List.map_toArray, List.map_cons, List.map_nil, hv, Sem.run_bind, Sem.run_pure, Result.andThen_ok, hr]
    rfl) h

theorem Plan.convSB {st dt e : TypeId} {x : Operand} {p : List UInt8} (ho : ops[i]? = some o) (hop : o.op = .convert st dt x) (hg : wantB ops E o = some true)
    (hx : opF E x = some (.ex (str p))) (hsrc : P.underlying st = some .string) (hdst : P.underlying dt = some (.slice e)) (he : P.underlying e = some (.int .u8)) (hp : p.length ≤ 9223372036854775807)
    (h : Plan P ops Q n I d k (i + 1) (setE o.dst (bytesF p) E)) : Plan P ops Q n I d (k + 1) i E :=
  Plan.step ho (Step.run ho hg fun a w _ hs => by
    have h1 := hs x (by simp [hop, Op.operands]) _ hx
    simp only [Fa.den, str] at h1
    have hr := Lib.run_convert_string_bytes (P := P) w st dt e ⟨p.toArray⟩ hsrc hdst he
    refine ⟨.slice (some ⟨w.heap.size, 0, none⟩) (ByteArray.mk p.toArray).size (grownCap w (ByteArray.mk p.toArray).size 0 e), Lib.bytesWorld w e ⟨p.toArray⟩, ?_, ⟨rfl, rfl, rfl, by rw [Lib.bytesWorld_size]; omega, fun j hj => Lib.bytesWorld_at_old w e _ j hj⟩, ?_⟩
    · simp only [execOp, hop, h1, Sem.run_bind, hr, Result.andThen_ok, Sem.run_pure]
    · have hsz : (ByteArray.mk p.toArray).size = p.length := by simp [ByteArray.size]
      refine ⟨_, _, _, rfl, ?_, ?_, by rw [bs_length, hsz, Nat.mul_one], (fun h => by cases h), fun j u hu => ⟨_, rfl, ?_⟩⟩
      · exact grownCap_ge _ _ _ _
      · have := grownCap_le_maxLen w (ByteArray.mk p.toArray).size 0 e (by rw [hsz]; simpa [maxLen] using hp)
        simpa [maxLen] using this
      · have hlt : j < p.length := by
          have := (List.getElem?_eq_some_iff.1 hu).1
          simpa [bs] using this
        have hadd : (⟨w.heap.size, 0, none⟩ : Addr).add j = ⟨w.heap.size, j, none⟩ := by unfold Addr.add; split <;> simp_all
        rw [hadd, Lib.bytesWorld_cell w e _ j (by rw [hsz]; exact hlt)]
        simp only [bs, List.getElem?_map, List.getElem?_eq_getElem hlt, Option.map_some, Option.some.injEq] at hu
        subst hu
        simp [List.getD_eq_getElem?_getD, List.getElem?_eq_getElem hlt]) h

theorem strOf_bs (l : List UInt8) : strOfNums (l.map fun b => (b.toNat : Int)) = ⟨l.toArray⟩ := by
  unfold strOfNums
  congr 1
  simp only [List.map_map]
  have : ((fun n : Int => UInt8.ofNat n.toNat) ∘ fun b : UInt8 => (b.toNat : Int)) = id := by
    funext b; simp
  rw [this, List.map_id]

theorem run_bytes_row {src e dt : TypeId} {w : World} {v : Value} {l : List UInt8} (hs : P.underlying src = some (.slice e)) (he : P.underlying e = some (.int .u8)) (hd : P.underlying dt = some .string)
    (h : rowH 1 (bs l) w v) : (convert src dt v).run P w = .ok (str l) w := by
  obtain ⟨A, m, c, rfl, _, _, hl, _, hc⟩ := h
  rw [bs_length, Nat.mul_one] at hl
  cases A with
  | none =>
    have hl0 : l = [] := by
      cases l with
      | nil => rfl
      | cons b l =>
        obtain ⟨ad, hA, _⟩ := hc 0 (.int .u8 b.toNat) (by simp [bs])
        cases hA
    subst hl0
    have := run_convert_bytes_nil (P := P) w src e hs he m c dt hd
    rw [this]; rfl
  | some ad =>
    obtain ⟨b, off, spot⟩ := ad
    -- an address with a spot has no cells: then the list is empty
    cases l with
    | nil =>
      simp only [List.length_nil] at hl
      subst hl
      simp [convert, run_underlying hs, run_underlying hd, run_underlying he, Conv.bytesToString, loadCells, loadCellsFrom, str, ByteArray.empty, ByteArray.emptyWithCapacity]
      rfl
    | cons x l =>
      have hspot : spot = none := by
        obtain ⟨ad', hA, hcell⟩ := hc 0 (.int .u8 x.toNat) (by simp [bs])
        cases hA
        simp only [Addr.add, if_true, World.cell?] at hcell
        split at hcell
        · cases spot with
          | none => rfl
          | some s => simp at hcell
        · cases hcell
      subst hspot
      have hr := run_convert_bytes_arg (P := P) w src e hs he b off m c ((x :: l).map fun b => (b.toNat : Int)) (by rw [List.length_map]; exact hl) (fun j hj => by
        have hlt : j < (x :: l).length := by omega
        obtain ⟨ad', hA, hcell⟩ := hc j (.int .u8 ((x :: l)[j]).toNat) (by simp only [bs, List.getElem?_map, List.getElem?_eq_getElem hlt, Option.map_some])
        cases hA
        have hadd : (⟨b, off, none⟩ : Addr).add j = ⟨b, off + j, none⟩ := by unfold Addr.add; split <;> simp_all
        rw [hadd] at hcell
        rw [hcell]
        simp only [List.getD_eq_getElem?_getD, List.getElem?_map, List.getElem?_eq_getElem hlt, Option.map_some, Option.getD_some]) dt hd
      rw [strOf_bs] at hr
      exact hr

theorem Plan.convBS {st dt e : TypeId} {x : Operand} {g : Fa} {p : List UInt8} (ho : ops[i]? = some o) (hop : o.op = .convert st dt x) (hg : wantB ops E o = some true)
    (hx : opF E x = some g) (hs : Sub I g (bytesF p)) (hsrc : P.underlying st = some (.slice e)) (hdst : P.underlying dt = some .string) (he : P.underlying e = some (.int .u8))
    (h : Plan P ops Q n I d k (i + 1) (setE o.dst (.ex (str p)) E)) : Plan P ops Q n I d (k + 1) i E :=
  Plan.step ho (Step.run ho hg fun a w hI hs' => by
    have h1 := hs w _ hI (hs' x (by simp [hop, Op.operands]) _ hx)
    refine ⟨str p, w, ?_, Below.refl _ _, by simp [Fa.den]⟩
    simp only [execOp, hop, Sem.run_bind, run_bytes_row hsrc he hdst h1, Result.andThen_ok, Sem.run_pure]) h
end
end Go.Free
