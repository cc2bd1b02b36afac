/-
  More of the small logic: conditions told as propositions, numbers in their kinds' ranges.
-/
import Derived.Test.YtkhcjedlopiicaaFreeSeat
set_option linter.unusedSimpArgs false
set_option linter.unusedVariables false
set_option maxRecDepth 20000
namespace Go.Free
open Go.RowKit
section
variable {P : Program} {n : Nat} {I : World → Prop} {Q : Exit → Act → World → Prop} {E : Env} {ops : Array Oper} {k i : Nat} {d : Bool}
theorem J.condT {c : Operand} {x y : Code} (hc : opF E c = some (.ex (.bool true))) (h : J P n I x Q E) : J P n I (.cond c x y) Q E := J.cond hc (fun _ => h) (fun e => by cases e)
theorem J.condF {c : Operand} {x y : Code} (hc : opF E c = some (.ex (.bool false))) (h : J P n I y Q E) : J P n I (.cond c x y) Q E := J.cond hc (fun e => by cases e) (fun _ => h)
theorem J.condD {c : Operand} {x y : Code} {p : Prop} [Decidable p] (hc : opF E c = some (.ex (.bool (decide p)))) (ht : p → J P n I x Q E) (hf : ¬ p → J P n I y Q E) : J P n I (.cond c x y) Q E :=
  J.cond hc (fun h => ht (of_decide_eq_true h)) (fun h => hf (of_decide_eq_false h))
theorem J.condE {α : Type} [BEq α] [LawfulBEq α] {c : Operand} {x y : Code} {p q : α} (hc : opF E c = some (.ex (.bool (p == q)))) (ht : p = q → J P n I x Q E) (hf : p ≠ q → J P n I y Q E) : J P n I (.cond c x y) Q E :=
  J.cond hc (fun h => ht (eq_of_beq h)) (fun h => hf (by intro e; rw [e, beq_self_eq_true] at h; cases h))
theorem J.condN {α : Type} [BEq α] [LawfulBEq α] {c : Operand} {x y : Code} {p q : α} (hc : opF E c = some (.ex (.bool (p != q)))) (ht : p ≠ q → J P n I x Q E) (hf : p = q → J P n I y Q E) : J P n I (.cond c x y) Q E :=
  J.cond hc (fun h => ht (by intro e; rw [e, bne_self_eq_false] at h; cases h)) (fun h => hf (by simpa using h))
/-- A boolean that is not known: both ways. -/
theorem Plan.splitD {t : Nat} {p : Prop} [Decidable p] (ht : p → Plan P ops Q n I d k i ((t, .ex (.bool true)) :: E)) (hf : ¬ p → Plan P ops Q n I d k i ((t, .ex (.bool false)) :: E)) : Plan P ops Q n I d k i ((t, .ex (.bool (decide p))) :: E) := by
  by_cases h : p
  · have e : decide p = true := by simpa using h
    rw [e]; exact ht h
  · have e : decide p = false := by simpa using h
    rw [e]; exact hf h
theorem Plan.splitE {α : Type} [BEq α] [LawfulBEq α] [DecidableEq α] {t : Nat} {p q : α} (ht : p = q → Plan P ops Q n I d k i ((t, .ex (.bool true)) :: E)) (hf : p ≠ q → Plan P ops Q n I d k i ((t, .ex (.bool false)) :: E)) : Plan P ops Q n I d k i ((t, .ex (.bool (p == q))) :: E) := by
  by_cases h : p = q
  · have e : (p == q) = true := by simpa using h
    rw [e]; exact ht h
  · have e : (p == q) = false := by simpa using h
    rw [e]; exact hf h
theorem Plan.splitN {α : Type} [BEq α] [LawfulBEq α] [DecidableEq α] {t : Nat} {p q : α} (ht : p ≠ q → Plan P ops Q n I d k i ((t, .ex (.bool true)) :: E)) (hf : p = q → Plan P ops Q n I d k i ((t, .ex (.bool false)) :: E)) : Plan P ops Q n I d k i ((t, .ex (.bool (p != q))) :: E) := by
  by_cases h : p = q
  · have e : (p != q) = false := by simpa using h
    rw [e]; exact hf h
  · have e : (p != q) = true := by simpa using h
    rw [e]; exact ht h
theorem Plan.isT {t : Nat} {p : Prop} [Decidable p] (hp : p) (h : Plan P ops Q n I d k i ((t, .ex (.bool true)) :: E)) : Plan P ops Q n I d k i ((t, .ex (.bool (decide p))) :: E) := by
  have e : decide p = true := by simpa using hp
  rw [e]; exact h
theorem Plan.isF {t : Nat} {p : Prop} [Decidable p] (hp : ¬ p) (h : Plan P ops Q n I d k i ((t, .ex (.bool false)) :: E)) : Plan P ops Q n I d k i ((t, .ex (.bool (decide p))) :: E) := by
  have e : decide p = false := by simpa using hp
  rw [e]; exact h
theorem Plan.eqT {α : Type} [BEq α] [LawfulBEq α] {t : Nat} {p q : α} (hp : p = q) (h : Plan P ops Q n I d k i ((t, .ex (.bool true)) :: E)) : Plan P ops Q n I d k i ((t, .ex (.bool (p == q))) :: E) := by
  have e : (p == q) = true := by simpa using hp
  rw [e]; exact h
theorem Plan.eqF {α : Type} [BEq α] [LawfulBEq α] {t : Nat} {p q : α} (hp : p ≠ q) (h : Plan P ops Q n I d k i ((t, .ex (.bool false)) :: E)) : Plan P ops Q n I d k i ((t, .ex (.bool (p == q))) :: E) := by
  have e : (p == q) = false := by simpa using hp
  rw [e]; exact h
theorem Plan.neT {α : Type} [BEq α] [LawfulBEq α] {t : Nat} {p q : α} (hp : p ≠ q) (h : Plan P ops Q n I d k i ((t, .ex (.bool true)) :: E)) : Plan P ops Q n I d k i ((t, .ex (.bool (p != q))) :: E) := by
  have e : (p != q) = true := by simpa using hp
  rw [e]; exact h
theorem Plan.neF {α : Type} [BEq α] [LawfulBEq α] {t : Nat} {p q : α} (hp : p = q) (h : Plan P ops Q n I d k i ((t, .ex (.bool false)) :: E)) : Plan P ops Q n I d k i ((t, .ex (.bool (p != q))) :: E) := by
  have e : (p != q) = false := by simpa using hp
  rw [e]; exact h
theorem Plan.lenB {t e : TypeId} {x : Operand} {g : Fa} {l : List UInt8} {o : Oper} (ho : ops[i]? = some o) (hop : o.op = .call { callee := .builtin .len, args := #[x], argTypes := #[t] }) (hg : wantB ops E o = some true)
    (hx : opF E x = some g) (hs : Sub I g (bytesF l)) (hu : P.underlying t = some (.slice e))
    (h : Plan P ops Q n I d k (i + 1) (setE o.dst (.ex (.int .i64 l.length)) E)) : Plan P ops Q n I d (k + 1) i E :=
  Plan.lenRow (m := l.length) ho hop hg hx hs hu (by simp [bs]) (by decide) h
theorem Plan.sliceB {t e : TypeId} {x : Operand} {lo hi : Option Operand} {g : Fa} {l : List UInt8} {a0 b0 : Nat} {o : Oper} (ho : ops[i]? = some o) (hop : o.op = .slice t x lo hi none)
    (hg : wantB ops E o = some true) (hx : opF E x = some g) (hs : Sub I g (bytesF l)) (he : Elt P t e (.int .u8 0) 1 1)
    (hlo : (lo = none ∧ a0 = 0) ∨ ∃ y kd, lo = some y ∧ opF E y = some (.ex (.int kd a0))) (hhi : (hi = none ∧ b0 = l.length) ∨ ∃ y kd, hi = some y ∧ opF E y = some (.ex (.int kd b0)))
    (hab : a0 ≤ b0) (hbm : b0 ≤ l.length)
    (h : Plan P ops Q n I d k (i + 1) (setE o.dst (bytesF ((l.take b0).drop a0)) E)) : Plan P ops Q n I d (k + 1) i E := by
  refine Plan.sliceRow (m := l.length) ho hop hg hx hs he (by simp [bs]) hlo hhi hab hbm ?_
  have e : ((bs l).take (b0 * 1)).drop (a0 * 1) = bs ((l.take b0).drop a0) := by rw [Nat.mul_one, Nat.mul_one]; simp [bs, List.map_drop, List.map_take]
  rw [e]; exact h
theorem Plan.indexB {t e : TypeId} {x y : Operand} {g : Fa} {l : List UInt8} {kd : IntKind} {q : Nat} {o : Oper} (ho : ops[i]? = some o) (hop : o.op = .indexAddr t x y)
    (hg : wantB ops E o = some true) (hx : opF E x = some g) (hs : Sub I g (bytesF l)) (hy : opF E y = some (.ex (.int kd (q : Int)))) (he : Elt P t e (.int .u8 0) 1 1) (h1 : q < l.length)
    (h : Plan P ops Q n I d k (i + 1) (setE o.dst (ptrF [.int .u8 (l.getD q 0).toNat]) E)) : Plan P ops Q n I d (k + 1) i E :=
  Plan.indexAddr (fun b : UInt8 => [.int .u8 b.toNat]) 1 l 0 ho hop hg hx (Sub.rowEq (bs_flat _) hs) hy he (fun _ => rfl) (Int.natCast_nonneg q) (Int.ofNat_lt.2 h1) h
theorem Plan.indexS {t : TypeId} {x y : Operand} {p : List UInt8} {kd : IntKind} {q : Nat} {o : Oper} (ho : ops[i]? = some o) (hop : o.op = .index t x y) (hg : wantB ops E o = some true)
    (hx : opF E x = some (.ex (str p))) (hy : opF E y = some (.ex (.int kd (q : Int)))) (hu : P.underlying t = some .string) (h1 : q < p.length)
    (h : Plan P ops Q n I d k (i + 1) (setE o.dst (.ex (.int .u8 (p.getD q 0).toNat)) E)) : Plan P ops Q n I d (k + 1) i E :=
  Plan.index ho hop hg hx hy hu (Int.natCast_nonneg q) (Int.ofNat_lt.2 h1) h
/-- A round's end: what the next round begins with. -/
theorem Nrm.next {σ : Type} {Ev : σ → Env} {ok : σ → Prop} {m : σ → Nat} {s : σ} (s' : σ) (hok : ok s') (hm : m s' < m s) (h : Weak I E (Ev s')) : Nrm n I (fun a w => ∃ s', ok s' ∧ m s' < m s ∧ I w ∧ Sh n a ∧ Sat (Ev s') a w) E :=
  fun _ _ h1 h2 h3 => ⟨s', hok, hm, h1, h2, h.sat h1 h3⟩
end
end Go.Free
namespace Go.Proofs.Ytkhcjedlopiicaa
open Go.Free Go.RowKit Go.Proofs
theorem u64r {x : Int} (h : 0 ≤ x ∧ x ≤ 18446744073709551615) : IntKind.u64.wrap x = x := by rw [IntKind.wrap_u64]; omega
theorem u16r {x : Int} (h : 0 ≤ x ∧ x ≤ 65535) : IntKind.u16.wrap x = x := by rw [IntKind.wrap_u16]; omega
theorem fdivN (x k : Nat) : (x : Int).fdiv (2 ^ k) = ((x / 2 ^ k : Nat) : Int) := by
  rw [Int.fdiv_eq_ediv_of_nonneg _ (by exact Int.le_of_lt (Int.pow_pos (by decide)))]
  simp
theorem u8N (x : Nat) : IntKind.u8.wrap (x : Int) = ((x % 256 : Nat) : Int) := by rw [IntKind.wrap_u8]; omega
theorem quoN {x y : Nat} (h : x ≤ 9223372036854775807) : IntKind.i64.wrap ((x : Int).tdiv (OfNat.ofNat y : Int)) = ((x / (OfNat.ofNat y : Nat) : Nat) : Int) := by
  rw [show (x : Int).tdiv (OfNat.ofNat y : Int) = ((x / (OfNat.ofNat y : Nat) : Nat) : Int) from Int.ofNat_tdiv x y]
  have := Nat.div_le_self x (OfNat.ofNat y : Nat)
  generalize x / (OfNat.ofNat y : Nat) = q at this ⊢
  exact i64r (by omega)
theorem remN (x y : Nat) : (x : Int).tmod (OfNat.ofNat y : Int) = ((x % (OfNat.ofNat y : Nat) : Nat) : Int) := Int.ofNat_tmod x y
theorem or256 (x y : Nat) (hx : x < 65536) (hy : y < 256) : IntKind.i64.wrap ((BitVec.ofInt IntKind.i64.bits ((x * 256 : Nat) : Int) ||| BitVec.ofInt IntKind.i64.bits (y : Int)).toNat : Int) = ((x * 256 + y : Nat) : Int) := by
  have e : (BitVec.ofInt IntKind.i64.bits ((x * 256 : Nat) : Int) ||| BitVec.ofInt IntKind.i64.bits (y : Int)).toNat = x * 256 + y := by
    show (BitVec.ofInt 64 ((x * 256 : Nat) : Int) ||| BitVec.ofInt 64 (y : Int)).toNat = _
    rw [BitVec.toNat_or, BitVec.ofInt_natCast, BitVec.ofInt_natCast, BitVec.toNat_ofNat, BitVec.toNat_ofNat, Nat.mod_eq_of_lt (by omega), Nat.mod_eq_of_lt (by omega)]
    have := Nat.shiftLeft_add_eq_or_of_lt (a := x) (b := y) (i := 8) (by omega)
    rw [Nat.shiftLeft_eq] at this
    exact this.symm
  rw [e, i64r (by omega)]
theorem i64u8 (c : UInt8) : IntKind.i64.wrap (c.toNat : Int) = c.toNat := i64r (by have := c.toNat_lt; omega)
theorem bsSet (l : List UInt8) (j : Nat) (c : UInt8) : (bs l).set j (.int .u8 c.toNat) = bs (l.set j c) := by simp [bs, List.map_set]
theorem madeBs (n : Nat) : (madeCells (Value.int .u8 0).cells (n * 1)).toList = bs (List.replicate n 0) := by
  have : (Value.int .u8 0).cells = #[.int .u8 0] := rfl
  rw [this, toList_madeCells_one, Nat.mul_one]
  simp [bs]
theorem u8r {x : Int} (h : 0 ≤ x ∧ x ≤ 255) : IntKind.u8.wrap x = x := by rw [IntKind.wrap_u8]; omega
end Go.Proofs.Ytkhcjedlopiicaa
