/-
  More of the small logic: conditions told as propositions, numbers in their kinds' ranges.
-/
import Derived.Test.YtpfnclecageleaaFreeSeat
namespace Go.Free
open Go.RowKit
section
variable {P : Program} {n : Nat} {I : World → Prop} {Q : Exit → Act → World → Prop} {E : Env} {ops : Array Oper} {k i : Nat} {d : Bool}
theorem J.condD {c : Operand} {x y : Code} {p : Prop} [Decidable p] (hc : opF E c = some (.ex (.bool (decide p)))) (ht : p → J P n I x Q E) (hf : ¬ p → J P n I y Q E) : J P n I (.cond c x y) Q E :=
  J.cond hc (fun h => ht (of_decide_eq_true h)) (fun h => hf (of_decide_eq_false h))
theorem J.condE {α : Type} [BEq α] [LawfulBEq α] {c : Operand} {x y : Code} {p q : α} (hc : opF E c = some (.ex (.bool (p == q)))) (ht : p = q → J P n I x Q E) (hf : p ≠ q → J P n I y Q E) : J P n I (.cond c x y) Q E :=
  J.cond hc (fun h => ht (eq_of_beq h)) (fun h => hf (by intro e; rw [e, beq_self_eq_true] at h; cases h))
theorem J.condN {α : Type} [BEq α] [LawfulBEq α] {c : Operand} {x y : Code} {p q : α} (hc : opF E c = some (.ex (.bool (p != q)))) (ht : p ≠ q → J P n I x Q E) (hf : p = q → J P n I y Q E) : J P n I (.cond c x y) Q E :=
  J.cond hc (fun h => ht (by intro e; rw [e, bne_self_eq_false] at h; cases h)) (fun h => hf (by simpa using h))
/-- A boolean that is not known: both ways. -/
theorem Plan.splitD {t : Nat} {p : Prop} [Decidable p] (ht : p → Plan P ops Q n I d k i ((t, .ex (.bool true)) :: E)) (hf : ¬ p → Plan P ops Q n I d k i ((t, .ex (.bool false)) :: E)) : Plan P ops Q n I d k i ((t, .ex (.bool (decide p))) :: E) := by
  by_cases h : p
  · have e : decide p = true := by simpa using h
    rw [e]; exact ht h
  · have e : decide p = false := by simpa using h
    rw [e]; exact hf h
theorem Plan.splitE {α : Type} [BEq α] [LawfulBEq α] [DecidableEq α] {t : Nat} {p q : α} (ht : p = q → Plan P ops Q n I d k i ((t, .ex (.bool true)) :: E)) (hf : p ≠ q → Plan P ops Q n I d k i ((t, .ex (.bool false)) :: E)) : Plan P ops Q n I d k i ((t, .ex (.bool (p == q))) :: E) := by
  by_cases h : p = q
  · have e : (p == q) = true := by simpa using h
    rw [e]; exact ht h
  · have e : (p == q) = false := by simpa using h
    rw [e]; exact hf h
theorem Plan.splitN {α : Type} [BEq α] [LawfulBEq α] [DecidableEq α] {t : Nat} {p q : α} (ht : p ≠ q → Plan P ops Q n I d k i ((t, .ex (.bool true)) :: E)) (hf : p = q → Plan P ops Q n I d k i ((t, .ex (.bool false)) :: E)) : Plan P ops Q n I d k i ((t, .ex (.bool (p != q))) :: E) := by
  by_cases h : p = q
  · have e : (p != q) = false := by simpa using h
    rw [e]; exact hf h
  · have e : (p != q) = true := by simpa using h
    rw [e]; exact ht h
theorem Plan.isT {t : Nat} {p : Prop} [Decidable p] (hp : p) (h : Plan P ops Q n I d k i ((t, .ex (.bool true)) :: E)) : Plan P ops Q n I d k i ((t, .ex (.bool (decide p))) :: E) := by
  have e : decide p = true := by simpa using hp
  rw [e]; exact h
theorem Plan.isF {t : Nat} {p : Prop} [Decidable p] (hp : ¬ p) (h : Plan P ops Q n I d k i ((t, .ex (.bool false)) :: E)) : Plan P ops Q n I d k i ((t, .ex (.bool (decide p))) :: E) := by
  have e : decide p = false := by simpa using hp
  rw [e]; exact h
theorem Plan.eqT {α : Type} [BEq α] [LawfulBEq α] {t : Nat} {p q : α} (hp : p = q) (h : Plan P ops Q n I d k i ((t, .ex (.bool true)) :: E)) : Plan P ops Q n I d k i ((t, .ex (.bool (p == q))) :: E) := by
  have e : (p == q) = true := by simpa using hp
  rw [e]; exact h
theorem Plan.eqF {α : Type} [BEq α] [LawfulBEq α] {t : Nat} {p q : α} (hp : p ≠ q) (h : Plan P ops Q n I d k i ((t, .ex (.bool false)) :: E)) : Plan P ops Q n I d k i ((t, .ex (.bool (p == q))) :: E) := by
  have e : (p == q) = false := by simpa using hp
  rw [e]; exact h
theorem Plan.neT {α : Type} [BEq α] [LawfulBEq α] {t : Nat} {p q : α} (hp : p ≠ q) (h : Plan P ops Q n I d k i ((t, .ex (.bool true)) :: E)) : Plan P ops Q n I d k i ((t, .ex (.bool (p != q))) :: E) := by
  have e : (p != q) = true := by simpa using hp
  rw [e]; exact h
theorem Plan.neF {α : Type} [BEq α] [LawfulBEq α] {t : Nat} {p q : α} (hp : p = q) (h : Plan P ops Q n I d k i ((t, .ex (.bool false)) :: E)) : Plan P ops Q n I d k i ((t, .ex (.bool (p != q))) :: E) := by
  have e : (p != q) = false := by simpa using hp
  rw [e]; exact h
/-- A round's end: what the next round begins with. -/
theorem Nrm.next {σ : Type} {Ev : σ → Env} {ok : σ → Prop} {m : σ → Nat} {s : σ} (s' : σ) (hok : ok s') (hm : m s' < m s) (h : Weak I E (Ev s')) : Nrm n I (fun a w => ∃ s', ok s' ∧ m s' < m s ∧ I w ∧ Sh n a ∧ Sat (Ev s') a w) E :=
  fun _ _ h1 h2 h3 => ⟨s', hok, hm, h1, h2, h.sat h1 h3⟩
end
end Go.Free
namespace Go.Proofs.Ytpfnclecageleaa
open Go.Free Go.RowKit Go.Proofs
theorem u64r {x : Int} (h : 0 ≤ x ∧ x ≤ 18446744073709551615) : IntKind.u64.wrap x = x := by rw [IntKind.wrap_u64]; omega
theorem u8r {x : Int} (h : 0 ≤ x ∧ x ≤ 255) : IntKind.u8.wrap x = x := by rw [IntKind.wrap_u8]; omega
end Go.Proofs.Ytpfnclecageleaa
