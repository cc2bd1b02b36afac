/-
  Steps of the small logic for moves, numbers, booleans and strings.
-/
import Derived.Test.YtkhcjedlopiicaaFreeCore
import Derived.Lib.ConvBytes
import Derived.Laws.BytesArg
import Derived.Laws.OwnMore
import Derived.Laws.MakeOwn
import Derived.Lib.AppendStr
import Derived.Deep.AppendLies
import Derived.Laws.Concat
import Derived.Laws.BitsLemmas
import Derived.WalkLawsBesides
import Derived.WalkSpells
set_option linter.unusedSimpArgs false
set_option linter.unusedVariables false
set_option maxRecDepth 20000
namespace Go.Free
open Go.RowKit

/-! ### Operands -/
def opF (E : Env) : Operand → Option Fa
  | .tmp t => look E t
  | .const v => some (.ex v)
  | .global g => some (.ex (.pointer (some ⟨g, 0, none⟩)))
  | .func f => some (.ex (.func (.func f) #[] #[]))

theorem opF_den {ops : Array Oper} {i : Nat} {o : Oper} {E : Env} {a : Act} {w : World} (ho : ops[i]? = some o) {x : Operand} (hx : x ∈ o.op.operands)
    (hs : ∀ t, t ∈ looks ops i → ∀ f, look E t = some f → f.den w (a.slot t)) {f : Fa} (hf : opF E x = some f) : f.den w (a.eval x) := by
  cases x with
  | tmp t =>
    refine hs t ?_ f hf
    simp only [looks, ho, Option.map_some, Option.getD_some, Oper.looksAt]
    exact List.mem_append_left _ (List.mem_filterMap.2 ⟨.tmp t, by simpa using hx, rfl⟩)
  | const v => simp only [opF, Option.some.injEq] at hf; subst hf; simp [Fa.den, Act.eval]
  | global g => simp only [opF, Option.some.injEq] at hf; subst hf; simp [Fa.den, Act.eval]
  | func g => simp only [opF, Option.some.injEq] at hf; subst hf; simp [Fa.den, Act.eval]

/-- Is the operation carried out? -/
def wantB (ops : Array Oper) (E : Env) (o : Oper) : Option Bool :=
  match o.guard with
  | none => some true
  | some (j, want) =>
    match dst ops j with
    | none => none
    | some d => match look E d with
      | some (.ex (.bool b)) => some (b == want)
      | some (.ex (.tuple _)) => some false
      | _ => none

theorem wantB_spec {ops : Array Oper} {i n : Nat} {o : Oper} {E : Env} {a : Act} {w : World} {b : Bool} (ho : ops[i]? = some o) (_hsh : Sh n a)
    (hs : ∀ t, t ∈ looks ops i → ∀ f, look E t = some f → f.den w (a.slot t)) (h : wantB ops E o = some b) : Region.wanted o (yielded ops a.tmps) = b := by
  unfold wantB at h
  unfold Region.wanted
  cases hg : o.guard with
  | none => rw [hg] at h; simpa using h
  | some jw =>
    obtain ⟨j, want⟩ := jw
    rw [hg] at h
    simp only at h ⊢
    cases hd : dst ops j with
    | none => rw [hd] at h; simp at h
    | some d =>
      rw [hd] at h
      simp only at h
      cases hl : look E d with
      | none => rw [hl] at h; simp at h
      | some f =>
        rw [hl] at h
        cases f with
        | is p => simp at h
        | tup l => simp at h
        | old w0 f => simp at h
        | ex v =>
          have hden := hs d (by
            simp only [looks, ho, Option.map_some, Option.getD_some, Oper.looksAt]
            refine List.mem_append_right _ ?_
            rw [hg]
            simp only [dst] at hd
            simp [hd]) _ hl
          simp only [Fa.den, Act.slot] at hden
          have hd' : (ops[j]?).bind (·.dst) = some d := hd
          cases v <;> simp at h
          case bool c =>
            have hlt : d < a.tmps.size := by
              rcases Nat.lt_or_ge d a.tmps.size with h' | h'
              · exact h'
              · simp [Array.getD, Nat.not_lt.2 h', undef] at hden
            have : yielded ops a.tmps j = some c := by
              unfold yielded
              rw [hd']
              simp only [Option.bind_some]
              rw [Array.getElem?_eq_getElem hlt]
              simp only [Array.getD, hlt, dite_true] at hden
              have hden' : a.tmps[d] = Value.bool c := hden
              rw [hden']
            rw [this]
            subst h
            cases c <;> cases want <;> rfl
          case tuple c =>
            have : yielded ops a.tmps j = none := by
              unfold yielded
              rw [hd']
              simp only [Option.bind_some]
              rcases Nat.lt_or_ge d a.tmps.size with h' | h'
              · rw [Array.getElem?_eq_getElem h']
                simp only [Array.getD, h', dite_true] at hden
                have hden' : a.tmps[d] = Value.tuple c := hden
                rw [hden']
              · rw [Array.getElem?_eq_none h']
            rw [this]
            subst h
            cases want <;> rfl

section
variable {P : Program} {ops : Array Oper} {Q : Exit → Act → World → Prop} {n : Nat} {I : World → Prop} {k i : Nat} {E : Env} {o : Oper} {d : Bool}

theorem dst_of (ho : ops[i]? = some o) : dst ops i = o.dst := by simp [dst, ho]

theorem Step.run (ho : ops[i]? = some o) (hg : wantB ops E o = some true) {F : Fa}
    (h : ∀ (a : Act) (w : World), I w → (∀ x, x ∈ o.op.operands → ∀ f, opF E x = some f → f.den w (a.eval x)) →
      ∃ (v : Value) (w' : World), (execOp a.eval o).run P w = .ok (.value v) w' ∧ Below w.heap.size w w' ∧ F.den w' v) : Step P ops Q n I i E F := by
  intro a w hI hsh hs
  obtain ⟨v, w', hr, hb, hF⟩ := h a w hI (fun x hx f hf => opF_den ho hx (fun t ht => hs t (.inl ht)) hf)
  unfold wpOp
  simp only [ho, wantB_spec ho hsh (fun t ht => hs t (.inl ht)) hg, if_true]
  refine .inl ?_
  unfold Oper.wp
  rw [hr]
  exact ⟨v, by rw [dst_of ho], hb, hF⟩

/-- As Step.run, with what stands under keys beyond the slots. -/
theorem Step.runK (ho : ops[i]? = some o) (hg : wantB ops E o = some true) {F : Fa}
    (h : ∀ (a : Act) (w : World), I w → (∀ x, x ∈ o.op.operands → ∀ f, opF E x = some f → f.den w (a.eval x)) → (∀ t, n ≤ t → ∀ f, look E t = some f → f.den w (a.slot t)) →
      ∃ (v : Value) (w' : World), (execOp a.eval o).run P w = .ok (.value v) w' ∧ Below w.heap.size w w' ∧ F.den w' v) : Step P ops Q n I i E F := by
  intro a w hI hsh hs
  obtain ⟨v, w', hr, hb, hF⟩ := h a w hI (fun x hx f hf => opF_den ho hx (fun t ht => hs t (.inl ht)) hf) (fun t ht => hs t (.inr ht))
  unfold wpOp
  simp only [ho, wantB_spec ho hsh (fun t ht => hs t (.inl ht)) hg, if_true]
  refine .inl ?_
  unfold Oper.wp
  rw [hr]
  exact ⟨v, by rw [dst_of ho], hb, hF⟩

theorem Step.skip (ho : ops[i]? = some o) (hg : wantB ops E o = some false) : Step P ops Q n I i E (.ex undef) := by
  intro a w hI hsh hs
  unfold wpOp
  simp only [ho, wantB_spec ho hsh (fun t ht => hs t (.inl ht)) hg, Bool.false_eq_true, if_false]
  exact ⟨undef, by rw [dst_of ho], Below.refl _ _, by simp [Fa.den]⟩

theorem Plan.step {F : Fa} (ho : ops[i]? = some o) (hs : Step P ops Q n I i E F) (h : Plan P ops Q n I d k (i + 1) (setE o.dst F E)) : Plan P ops Q n I d (k + 1) i E :=
  .inl ⟨F, hs, by rw [dst_of ho]; exact h⟩

theorem Plan.skip (ho : ops[i]? = some o) (hg : wantB ops E o = some false) (h : Plan P ops Q n I d k (i + 1) (setE o.dst (.ex undef) E)) : Plan P ops Q n I d (k + 1) i E :=
  Plan.step ho (Step.skip ho hg) h

theorem Plan.move {x : Operand} {F : Fa} (ho : ops[i]? = some o) (hop : o.op = .move x) (hg : wantB ops E o = some true) (hx : opF E x = some F)
    (h : Plan P ops Q n I d k (i + 1) (setE o.dst F E)) : Plan P ops Q n I d (k + 1) i E :=
  Plan.step ho (Step.run ho hg fun a w _ hs => ⟨a.eval x, w, by simp [execOp, hop], Below.refl _ _, hs x (by simp [hop, Op.operands]) F hx⟩) h
theorem Plan.assign {x : Operand} {F : Fa} (ho : ops[i]? = some o) (hop : o.op = .assign x) (hg : wantB ops E o = some true) (hx : opF E x = some F)
    (h : Plan P ops Q n I d k (i + 1) (setE o.dst F E)) : Plan P ops Q n I d (k + 1) i E :=
  Plan.step ho (Step.run ho hg fun a w _ hs => ⟨a.eval x, w, by simp [execOp, hop], Below.refl _ _, hs x (by simp [hop, Op.operands]) F hx⟩) h

/-- All operands known exactly: whatever the operation computes of them in any world, if it leaves that alone. -/
theorem Plan.pick {c x y : Operand} {b : Bool} {F : Fa} (ho : ops[i]? = some o) (hop : o.op = .pick c x y) (hg : wantB ops E o = some true) (hc : opF E c = some (.ex (.bool b))) (hx : opF E (if b then x else y) = some F)
    (h : Plan P ops Q n I d k (i + 1) (setE o.dst F E)) : Plan P ops Q n I d (k + 1) i E :=
  Plan.step ho (Step.run ho hg fun a w _ hs => by
    have h1 := hs c (by simp [hop, Op.operands]) _ hc
    have h2 := hs (if b then x else y) (by cases b <;> simp [hop, Op.operands]) _ hx
    simp only [Fa.den] at h1
    refine ⟨a.eval (if b then x else y), w, ?_, Below.refl _ _, h2⟩
    cases b <;> simp [execOp, hop, h1, asBool]) h

/-! ### Numbers -/
def intVal (op : BinOp) (k : IntKind) (x y : Int) : Option Value :=
  match op with
  | .add => some (.int k (k.wrap (x + y)))
  | .sub => some (.int k (k.wrap (x - y)))
  | .mul => some (.int k (k.wrap (x * y)))
  | .quo => if y = 0 then none else some (.int k (k.wrap (x.tdiv y)))
  | .rem => if y = 0 then none else some (.int k (x.tmod y))
  | .and => some (.int k (k.wrap (BitVec.ofInt k.bits x &&& BitVec.ofInt k.bits y).toNat))
  | .or => some (.int k (k.wrap (BitVec.ofInt k.bits x ||| BitVec.ofInt k.bits y).toNat))
  | .xor => some (.int k (k.wrap (BitVec.ofInt k.bits x ^^^ BitVec.ofInt k.bits y).toNat))
  | .andNot => some (.int k (k.wrap (BitVec.ofInt k.bits x &&& ~~~BitVec.ofInt k.bits y).toNat))
  | .eql => some (.bool (x == y))
  | .neq => some (.bool (x != y))
  | .lss => some (.bool (x < y))
  | .leq => some (.bool (x ≤ y))
  | .gtr => some (.bool (x > y))
  | .geq => some (.bool (x ≥ y))
  | _ => none

theorem run_eqGuard_int {w : World} (op : BinOp) (t : TypeId) (x y : Operand) (k k' : IntKind) (p q : Int) : (eqGuard op t x y (.int k p) (.int k' q)).run P w = .ok () w := by
  cases op <;> simp [eqGuard]
theorem run_eqGuard_str {w : World} (op : BinOp) (t : TypeId) (x y : Operand) (p q : ByteArray) : (eqGuard op t x y (.string p) (.string q)).run P w = .ok () w := by
  cases op <;> simp [eqGuard]
theorem run_eqGuard_bool {w : World} (op : BinOp) (t : TypeId) (x y : Operand) (p q : Bool) : (eqGuard op t x y (.bool p) (.bool q)).run P w = .ok () w := by
  cases op <;> simp [eqGuard]

theorem intVal_run {w : World} {op : BinOp} {t : TypeId} {kd : IntKind} {p q : Int} {v : Value} (h : intVal op kd p q = some v) : (binOp op t (.int kd p) (.int kd q)).run P w = .ok v w := by
  cases op <;> simp only [intVal, Option.some.injEq, reduceCtorEq] at h <;>
    first
    | (subst h; simp [binOp, Op.intArith, Op.intBits, Op.intCmp]; done)
    | (split at h
       · simp at h
       · rename_i hy; simp only [Option.some.injEq] at h; subst h; simp [binOp, Op.intDiv, hy])

theorem Plan.ints {op : BinOp} {xt yt : TypeId} {x y : Operand} {kd : IntKind} {p q : Int} {v : Value} (ho : ops[i]? = some o) (hop : o.op = .binOp op xt x y yt) (hg : wantB ops E o = some true)
    (hx : opF E x = some (.ex (.int kd p))) (hy : opF E y = some (.ex (.int kd q))) (hv : intVal op kd p q = some v)
    (h : Plan P ops Q n I d k (i + 1) (setE o.dst (.ex v) E)) : Plan P ops Q n I d (k + 1) i E :=
  Plan.step ho (Step.run ho hg fun a w _ hs => by
    have h1 := hs x (by simp [hop, Op.operands]) _ hx
    have h2 := hs y (by simp [hop, Op.operands]) _ hy
    simp only [Fa.den] at h1 h2
    refine ⟨v, w, ?_, Below.refl _ _, by simp [Fa.den]⟩
    simp [execOp, hop, h1, h2, run_eqGuard_int, intVal_run hv]) h

def shVal (op : BinOp) (k : IntKind) (x y : Int) : Option Value :=
  if y < 0 then none else
  match op with
  | .shl => some (.int k (k.wrap (x * 2 ^ (min y.toNat k.bits))))
  | .shr => some (.int k (x.fdiv (2 ^ (min y.toNat k.bits))))
  | _ => none
theorem shVal_run {w : World} {op : BinOp} {t : TypeId} {kd ky : IntKind} {p q : Int} {v : Value} (h : shVal op kd p q = some v) : (binOp op t (.int kd p) (.int ky q)).run P w = .ok v w := by
  unfold shVal at h
  split at h
  · simp at h
  · rename_i hq
    cases op <;> simp only [reduceCtorEq, Option.some.injEq] at h <;> (subst h; simp [binOp, Op.shift, hq])
theorem Plan.shift {op : BinOp} {xt yt : TypeId} {x y : Operand} {kd ky : IntKind} {p q : Int} {v : Value} (ho : ops[i]? = some o) (hop : o.op = .binOp op xt x y yt) (hg : wantB ops E o = some true)
    (hx : opF E x = some (.ex (.int kd p))) (hy : opF E y = some (.ex (.int ky q))) (hv : shVal op kd p q = some v)
    (h : Plan P ops Q n I d k (i + 1) (setE o.dst (.ex v) E)) : Plan P ops Q n I d (k + 1) i E :=
  Plan.step ho (Step.run ho hg fun a w _ hs => by
    have h1 := hs x (by simp [hop, Op.operands]) _ hx
    have h2 := hs y (by simp [hop, Op.operands]) _ hy
    simp only [Fa.den] at h1 h2
    refine ⟨v, w, ?_, Below.refl _ _, by simp [Fa.den]⟩
    simp [execOp, hop, h1, h2, run_eqGuard_int, shVal_run hv]) h

def unVal : UnOp → Value → Option Value
  | .neg, .int k x => some (.int k (k.wrap (0 - x)))
  | .not, .bool b => some (.bool !b)
  | .xor, .int k x => some (.int k (k.wrap (BitVec.ofInt k.bits (if k.signed then -1 else k.max) ^^^ BitVec.ofInt k.bits x).toNat))
  | _, _ => none
theorem unVal_run {w : World} {op : UnOp} {p v : Value} (h : unVal op p = some v) : (Op.unary op p).run P w = .ok v w := by
  cases op <;> cases p <;> simp only [unVal, Option.some.injEq, reduceCtorEq] at h <;> (subst h; simp [Op.unary, Op.intArith, Op.intBits])
theorem Plan.un {op : UnOp} {xt : TypeId} {x : Operand} {p v : Value} (ho : ops[i]? = some o) (hop : o.op = .unOp op xt x) (hg : wantB ops E o = some true)
    (hx : opF E x = some (.ex p)) (hv : unVal op p = some v)
    (h : Plan P ops Q n I d k (i + 1) (setE o.dst (.ex v) E)) : Plan P ops Q n I d (k + 1) i E :=
  Plan.step ho (Step.run ho hg fun a w _ hs => by
    have h1 := hs x (by simp [hop, Op.operands]) _ hx
    simp only [Fa.den] at h1
    refine ⟨v, w, ?_, Below.refl _ _, by simp [Fa.den]⟩
    simp [execOp, hop, h1, unVal_run hv]) h

theorem Plan.bools {op : BinOp} {xt yt : TypeId} {x y : Operand} {p q r : Bool} (ho : ops[i]? = some o) (hop : o.op = .binOp op xt x y yt) (hg : wantB ops E o = some true)
    (hx : opF E x = some (.ex (.bool p))) (hy : opF E y = some (.ex (.bool q))) (hu : P.underlying xt = some .bool) (hv : (op = .eql ∧ r = (p == q)) ∨ (op = .neq ∧ r = !(p == q)))
    (h : Plan P ops Q n I d k (i + 1) (setE o.dst (.ex (.bool r)) E)) : Plan P ops Q n I d (k + 1) i E :=
  Plan.step ho (Step.run ho hg fun a w _ hs => by
    have h1 := hs x (by simp [hop, Op.operands]) _ hx
    have h2 := hs y (by simp [hop, Op.operands]) _ hy
    simp only [Fa.den] at h1 h2
    refine ⟨.bool r, w, ?_, Below.refl _ _, by simp [Fa.den]⟩
    rcases hv with ⟨rfl, rfl⟩ | ⟨rfl, rfl⟩
    · simp [execOp, hop, h1, h2, run_eqGuard_bool, run_eql_bool w xt p q hu]
    · simp [execOp, hop, h1, h2, run_eqGuard_bool, run_neq_bool w xt p q hu]) h

theorem Plan.convInt {st dt : TypeId} {x : Operand} {kd kd' : IntKind} {p : Int} (ho : ops[i]? = some o) (hop : o.op = .convert st dt x) (hg : wantB ops E o = some true)
    (hx : opF E x = some (.ex (.int kd p))) (hsrc : P.underlying st = some (.int kd)) (hdst : P.underlying dt = some (.int kd'))
    (h : Plan P ops Q n I d k (i + 1) (setE o.dst (.ex (.int kd' (kd'.wrap p))) E)) : Plan P ops Q n I d (k + 1) i E :=
  Plan.step ho (Step.run ho hg fun a w _ hs => by
    have h1 := hs x (by simp [hop, Op.operands]) _ hx
    simp only [Fa.den] at h1
    refine ⟨_, w, ?_, Below.refl _ _, by simp only [Fa.den]; rfl⟩
    simp [execOp, hop, h1, convert, run_underlying hsrc, run_underlying hdst, Conv.intToInt]) h

/-! ### Strings -/
def str (l : List UInt8) : Value := .string ⟨l.toArray⟩
def strVal2 (op : BinOp) (a b : List UInt8) : Option Value :=
  match op with
  | .eql => some (.bool (a == b))
  | .neq => some (.bool !(a == b))
  | .lss => some (.bool (Op.bytesLess a b))
  | _ => none
theorem Plan.strs {op : BinOp} {xt yt : TypeId} {x y : Operand} {p q : List UInt8} {v : Value} (ho : ops[i]? = some o) (hop : o.op = .binOp op xt x y yt) (hg : wantB ops E o = some true)
    (hx : opF E x = some (.ex (str p))) (hy : opF E y = some (.ex (str q))) (hv : strVal2 op p q = some v)
    (h : Plan P ops Q n I d k (i + 1) (setE o.dst (.ex v) E)) : Plan P ops Q n I d (k + 1) i E :=
  Plan.step ho (Step.run ho hg fun a w _ hs => by
    have h1 := hs x (by simp [hop, Op.operands]) _ hx
    have h2 := hs y (by simp [hop, Op.operands]) _ hy
    simp only [Fa.den, str] at h1 h2
    refine ⟨v, w, ?_, Below.refl _ _, by simp [Fa.den]⟩
    cases op <;> simp only [strVal2, Option.some.injEq, reduceCtorEq] at hv <;> (subst hv; simp [execOp, hop, h1, h2, run_eqGuard_str, binOp_string_eql, binOp_string_neq, binOp_string_lss])) h
theorem Plan.concat {xt yt : TypeId} {x y : Operand} {p q : List UInt8} (ho : ops[i]? = some o) (hop : o.op = .binOp .add xt x y yt) (hg : wantB ops E o = some true)
    (hx : opF E x = some (.ex (str p))) (hy : opF E y = some (.ex (str q))) (hn : p.length + q.length ≤ 9223372036854775807)
    (h : Plan P ops Q n I d k (i + 1) (setE o.dst (.ex (str (p ++ q))) E)) : Plan P ops Q n I d (k + 1) i E :=
  Plan.step ho (Step.run ho hg fun a w _ hs => by
    have h1 := hs x (by simp [hop, Op.operands]) _ hx
    have h2 := hs y (by simp [hop, Op.operands]) _ hy
    simp only [Fa.den, str] at h1 h2
    refine ⟨str (p ++ q), w, ?_, Below.refl _ _, by simp [Fa.den]⟩
    have hr := run_string_add_sum (P := P) (w := w) ⟨p.toArray⟩ ⟨q.toArray⟩ (by simpa [ByteArray.size] using hn)
    rw [ByteArray.mk_append_mk] at hr
    simp [execOp, hop, h1, h2, run_eqGuard_str, binOp_string_add, hr, str]) h
theorem Plan.lenStr {t : TypeId} {x : Operand} {p : List UInt8} (ho : ops[i]? = some o) (hop : o.op = .call { callee := .builtin .len, args := #[x], argTypes := #[t] }) (hg : wantB ops E o = some true)
    (hx : opF E x = some (.ex (str p))) (hu : P.underlying t = some .string)
    (h : Plan P ops Q n I d k (i + 1) (setE o.dst (.ex (.int .i64 p.length)) E)) : Plan P ops Q n I d (k + 1) i E :=
  Plan.step ho (Step.run ho hg fun a w _ hs => by
    have h1 := hs x (by simp [hop, Op.operands, Call.operands]) _ hx
    simp only [Fa.den, str] at h1
    refine ⟨.int .i64 p.length, w, ?_, Below.refl _ _, by simp [Fa.den]⟩
    have hr := run_len_string (P := P) (w := w) t o.type ⟨p.toArray⟩ hu
    have hsz : ((ByteArray.mk p.toArray).size : Int) = p.length := by rw [ByteArray.size_mk']; simp
    rw [hsz] at hr
    simp only [execOp, hop, resolve, invoke, builtin, List.map_toArray, List.map_cons, List.map_nil, h1, Sem.run_bind, Sem.run_pure, Result.andThen_ok, hr]
    rfl) h
theorem Plan.index {t : TypeId} {x y : Operand} {p : List UInt8} {kd : IntKind} {j : Int} (ho : ops[i]? = some o) (hop : o.op = .index t x y) (hg : wantB ops E o = some true)
    (hx : opF E x = some (.ex (str p))) (hy : opF E y = some (.ex (.int kd j))) (hu : P.underlying t = some .string) (h0 : 0 ≤ j) (h1 : j < p.length)
    (h : Plan P ops Q n I d k (i + 1) (setE o.dst (.ex (.int .u8 (p.getD j.toNat 0).toNat)) E)) : Plan P ops Q n I d (k + 1) i E :=
  Plan.step ho (Step.run ho hg fun a w _ hs => by
    have e1 := hs x (by simp [hop, Op.operands]) _ hx
    have e2 := hs y (by simp [hop, Op.operands]) _ hy
    simp only [Fa.den, str] at e1 e2
    refine ⟨_, w, ?_, Below.refl _ _, by simp only [Fa.den]; rfl⟩
    have hlt : j.toNat < (ByteArray.mk p.toArray).size := by simp [ByteArray.size]; omega
    have hget : (ByteArray.mk p.toArray)[j.toNat]? = some (p.getD j.toNat 0) := by
      rw [ByteArray.getElem?_lt' _ _ hlt]
      have hl : j.toNat < p.length := by omega
      simp only [List.getD_eq_getElem?_getD, List.getElem?_eq_getElem hl, Option.getD_some]
      rfl
    simp [execOp, hop, e1, e2, Instr.index, asIntOf, run_underlying hu, h0, hget]) h
end
end Go.Free
