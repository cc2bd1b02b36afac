/-
  Equality of structs, cell by cell.
-/
import Derived.Test.YtkhcjedlopiicaaFlatOpen
import Derived.Test.YtkhcjedlopiicaaFreePtr
import Derived.DeepKeys
import Derived.Laws.StructEq
set_option linter.unusedSimpArgs false
set_option linter.unusedVariables false
set_option maxRecDepth 20000
namespace Go.Free
open Go.RowKit

def litOf : Value → Lit
  | .int k n => .int k n
  | .bool b => .bool b
  | .string s => .string s.data.toList
  | _ => .bool false
theorem CellsOk.split : ∀ {a b : List Kd} {c : List Value}, CellsOk (a ++ b) c → CellsOk a (c.take a.length) ∧ CellsOk b (c.drop a.length)
  | [], _, _, h => ⟨by simp [CellsOk], by simpa using h⟩
  | k :: a, b, _, ⟨v, r, h1, h2, h3⟩ => by
    subst h1
    obtain ⟨e1, e2⟩ := CellsOk.split h3
    exact ⟨⟨v, _, by simp, h2, e1⟩, by simpa using e2⟩
theorem litOf_inj {l : List Kd} : ∀ {xs ys : List Value}, CellsOk l xs → CellsOk l ys → xs.map litOf = ys.map litOf → xs = ys := by
  induction l with
  | nil => intro xs ys h1 h2 _; simp only [CellsOk] at h1 h2; rw [h1, h2]
  | cons k l ih =>
    intro xs ys ⟨v, r, h1, h2, h3⟩ ⟨u, s, g1, g2, g3⟩ he
    subst h1 g1
    simp only [List.map_cons, List.cons.injEq] at he
    rw [ih h3 g3 he.2]
    congr 1
    have h4 := he.1
    cases k with
    | int q =>
      obtain ⟨n, rfl, _⟩ := h2
      obtain ⟨m, rfl, _⟩ := g2
      simpa [litOf] using h4
    | str =>
      obtain ⟨n, rfl, _⟩ := h2
      obtain ⟨m, rfl, _⟩ := g2
      simp only [litOf, Lit.string.injEq] at h4
      obtain ⟨⟨n⟩⟩ := n
      obtain ⟨⟨m⟩⟩ := m
      simp only at h4
      rw [h4]
    | bool =>
      obtain ⟨n, rfl⟩ := h2
      obtain ⟨m, rfl⟩ := g2
      simpa [litOf] using h4

section
variable {P : Program}
theorem keyLits_fs {n : Nat} {cs : List Value} (hg : ∀ t l cs, P.keyTypeAt n t = true → flatT P n t = some l → CellsOk l cs → P.keyLits n t cs = some (cs.map litOf)) :
    ∀ (fs : List Field) (acc : Nat) (l : List Kd), flatFs P (flatT P n) fs acc = some l → (∀ f ∈ fs, P.keyTypeAt n f.type = true) → acc + l.length ≤ cs.length → CellsOk l ((cs.drop acc).take l.length) →
      ∃ ls, fs.mapM (fun f => P.keyLits n f.type ((cs.drop f.offset).take (P.cellsOf f.type))) = some ls ∧ ls.flatten = ((cs.drop acc).take l.length).map litOf
  | [], acc, l, h, _, _, _ => by simp only [flatFs, Option.some.injEq] at h; subst h; exact ⟨[], by simp, by simp⟩
  | f :: fs, acc, l, h, hk, hl, hc => by
    simp only [flatFs] at h
    cases hga : flatT P n f.type with
    | none => rw [hga] at h; cases h
    | some a =>
      rw [hga] at h
      simp only at h
      split at h
      · rename_i hcond
        cases hr : flatFs P (flatT P n) fs (acc + a.length) with
        | none => rw [hr] at h; cases h
        | some b =>
          rw [hr] at h
          simp only [Option.map_some, Option.some.injEq] at h
          subst h
          rw [List.length_append] at hl hc
          obtain ⟨h1, h2⟩ := hc.split
          rw [List.take_take, Nat.min_eq_left (by omega)] at h1
          rw [List.drop_take, List.drop_drop, show a.length + b.length - a.length = b.length by omega] at h2
          obtain ⟨ls, e1, e2⟩ := keyLits_fs hg fs _ b hr (fun f' hf' => hk f' (List.mem_cons_of_mem _ hf')) (by omega) h2
          have h3 := hg f.type a _ (hk f List.mem_cons_self) hga h1
          refine ⟨((cs.drop acc).take a.length).map litOf :: ls, ?_, ?_⟩
          · simp only [List.mapM_cons, Option.bind_eq_bind, Option.pure_def]
            rw [hcond.1, ← hcond.2, h3, e1]; rfl
          · rw [List.flatten_cons, e2, List.length_append, List.take_add, List.drop_drop, List.map_append]
      · cases h
theorem keyLits_flat : ∀ (n : Nat) (t : TypeId) (l : List Kd) (cs : List Value), P.keyTypeAt n t = true → flatT P n t = some l → CellsOk l cs → P.keyLits n t cs = some (cs.map litOf)
  | 0, _, _, _, h, _, _ => by simp [Program.keyTypeAt] at h
  | n + 1, t, l, cs, hk, h, hc => by
    unfold flatT at h
    unfold Program.keyTypeAt at hk
    unfold Program.keyLits
    cases hu : P.underlying t with
    | none => rw [hu] at h; cases h
    | some d =>
      rw [hu] at h hk
      cases d <;> simp only [reduceCtorEq, Option.some.injEq] at h
      case bool =>
        subst h
        obtain ⟨v, r, rfl, ⟨b, rfl⟩, h2⟩ := hc
        simp only [CellsOk] at h2; subst h2
        rfl
      case int k =>
        subst h
        obtain ⟨v, r, rfl, ⟨b, rfl, hw⟩, h2⟩ := hc
        simp only [CellsOk] at h2; subst h2
        simp [hw, litOf]
      case string =>
        subst h
        obtain ⟨v, r, rfl, ⟨b, rfl, hw⟩, h2⟩ := hc
        simp only [CellsOk] at h2; subst h2
        simp [hw, litOf]
      case struct fs =>
        simp only [Bool.and_eq_true, Array.all_eq_true_iff_forall_mem] at hk
        split at h
        · rename_i l' hl'
          split at h
          · rename_i hlen
            cases h
            have hcl := hc.length
            obtain ⟨ls, e1, e2⟩ := keyLits_fs (cs := cs) (fun t l cs h1 h2 h3 => keyLits_flat n t l cs h1 h2 h3) fs.toList 0 l hl' (fun f hf => (hk.1.1 f (by simpa using hf)).2) (by omega)
              (by rw [List.drop_zero, List.take_of_length_le (by omega)]; exact hc)
            rw [List.drop_zero, List.take_of_length_le (by omega)] at e2
            have hnm : (fs.all fun x => x.name != "_") = true := by
              rw [Array.all_eq_true_iff_forall_mem]
              exact fun f hf => (hk.1.1 f hf).1
            simp only [hcl, hlen, hnm, and_self, if_true, e1, Option.map_some, e2]
          · cases h
        · cases h
      case array q e =>
        simp only at hk
        split at h
        · rename_i l' hl'
          split at h
          · rename_i hlen
            cases h
            have hcl : cs.length = P.cellsOf t := by rw [hc.length, List.length_flatten, List.map_replicate, List.sum_replicate_nat, hlen.2]
            have key : ∀ j (c : List Value), CellsOk (List.replicate j l').flatten c → ∀ o, (∀ i, i < j → ((cs.drop ((o + i) * P.cellsOf e)).take (P.cellsOf e)) = (c.drop (i * P.cellsOf e)).take (P.cellsOf e)) →
                ∃ ls, (List.range' o j).mapM (fun i => P.keyLits n e ((cs.drop (i * P.cellsOf e)).take (P.cellsOf e))) = some ls ∧ ls.flatten = c.map litOf := by
              intro j
              induction j with
              | zero =>
                intro c hc o _
                simp only [List.replicate_zero, List.flatten_nil, CellsOk] at hc
                subst hc
                exact ⟨[], by simp, by simp⟩
              | succ j ih =>
                intro c hc o hs
                rw [List.replicate_succ, List.flatten_cons] at hc
                obtain ⟨h1, h2⟩ := hc.split
                rw [hlen.1] at h1 h2
                obtain ⟨ls, e1, e2⟩ := ih _ h2 (o + 1) (fun i hi => by
                  have := hs (i + 1) (by omega)
                  rw [show o + 1 + i = o + (i + 1) by omega, this, List.drop_drop, Nat.add_mul, Nat.one_mul, Nat.add_comm])
                have h0 := hs 0 (by omega)
                rw [Nat.add_zero, Nat.zero_mul, List.drop_zero] at h0
                refine ⟨(c.take (P.cellsOf e)).map litOf :: ls, ?_, ?_⟩
                · rw [List.range'_succ, List.mapM_cons, e1, h0, keyLits_flat n e l' _ hk hl' h1]; rfl
                · rw [List.flatten_cons, e2, ← List.map_append, List.take_append_drop]
            obtain ⟨ls, e1, e2⟩ := key q cs hc 0 (fun i _ => by rw [Nat.zero_add])
            rw [← List.range_eq_range'] at e1
            simp only [hcl, if_true, e1, Option.map_some, e2]
          · cases h
        · cases h

theorem run_eq_flat {w : World} {n : Nat} {t : TypeId} {l : List Kd} {xs ys : List Value} {r : Bool} (hn : n ≤ 10000) (hk : P.keyTypeAt n t = true) (hf : flatT P n t = some l) (hx : CellsOk l xs) (hy : CellsOk l ys)
    (fx : (Value.agg xs.toArray).formed P t = true) (fy : (Value.agg ys.toArray).formed P t = true) (hr : r = true ↔ xs = ys) : (Op.equalIn 10000 t (.agg xs.toArray) (.agg ys.toArray)).run P w = .ok r w := by
  obtain ⟨r', h1, h2⟩ := run_equalIn_deep (10000 - n) n t hk w n n (.agg xs.toArray) (.agg ys.toArray) _ _ fx fy (by simpa [Value.cells] using keyLits_flat n t l xs hk hf hx) (by simpa [Value.cells] using keyLits_flat n t l ys hk hf hy)
  rw [show 10000 - n + n = 10000 by omega] at h1
  rw [h1]
  congr 1
  rw [Bool.eq_iff_iff, h2, hr]
  exact ⟨fun e => litOf_inj hx hy e, fun e => by rw [e]⟩
variable {ops : Array Oper} {Q : Exit → Act → World → Prop} {n : Nat} {I : World → Prop} {k i : Nat} {E : Env} {o : Oper} {d : Bool}
/-- Two structs compared. -/
theorem Plan.eqAgg {op : BinOp} {t yt : TypeId} {x y : Operand} {m : Nat} {l : List Kd} {xs ys : List Value} {r v : Bool} (ho : ops[i]? = some o) (hop : o.op = .binOp op t x y yt) (hg : wantB ops E o = some true)
    (hx : opF E x = some (.ex (.agg xs.toArray))) (hy : opF E y = some (.ex (.agg ys.toArray))) (hn : m ≤ 10000) (hk : P.keyTypeAt m t = true) (hf : flatT P m t = some l) (hm : P.eqGuardType P.depth t = false)
    (h1 : CellsOk l xs) (h2 : CellsOk l ys) (fx : ∀ zs : Array Value, zs.size = l.length → (Value.agg zs).formed P t = true) (hr : r = true ↔ xs = ys) (hv : (op = .eql ∧ v = r) ∨ (op = .neq ∧ v = !r))
    (h : Plan P ops Q n I d k (i + 1) (setE o.dst (.ex (.bool v)) E)) : Plan P ops Q n I d (k + 1) i E :=
  Plan.step ho (Step.run ho hg fun a w hI hs' => by
    have e1 := hs' x (by simp [hop, Op.operands]) _ hx
    have e2 := hs' y (by simp [hop, Op.operands]) _ hy
    simp only [Fa.den] at e1 e2
    have hr' := run_eq_flat (P := P) (w := w) hn hk hf h1 h2 (fx _ (by simp [h1.length])) (fx _ (by simp [h2.length])) hr
    refine ⟨.bool v, w, ?_, Below.refl _ _, by simp [Fa.den]⟩
    rcases hv with ⟨rfl, rfl⟩ | ⟨rfl, rfl⟩
    · simp only [execOp, hop, e1, e2, Sem.run_bind, run_eqGuard_agg w .eql t x y _ _ hm, Result.andThen_ok, run_eql_struct, hr', Sem.run_pure]
    · simp only [execOp, hop, e1, e2, Sem.run_bind, run_eqGuard_agg w .neq t x y _ _ hm, Result.andThen_ok, run_neq_struct, hr', Sem.run_pure]) h
end
end Go.Free
