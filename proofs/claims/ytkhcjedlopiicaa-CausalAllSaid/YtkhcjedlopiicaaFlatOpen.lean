/-
  What a value of structs, arrays, numbers, texts and truths is, cell by cell; rows of such values.
-/
import Derived.Test.YtkhcjedlopiicaaFreeRows
import Derived.ChangeArms
import Derived.ChangeSlices
import Derived.SliceStrings
import Derived.OpenShut
import Derived.WalkKit
set_option linter.unusedSimpArgs false
set_option linter.unusedVariables false
set_option maxRecDepth 20000
namespace Go.Free
open Go.RowKit

inductive Kd where
  | int (k : IntKind)
  | str
  | bool
def Kd.ok : Kd → Value → Prop
  | .int k, v => ∃ n, v = .int k n ∧ (Lit.int k n).wf = true
  | .str, v => ∃ s : ByteArray, v = .string s ∧ s.size ≤ maxLen
  | .bool, v => ∃ b, v = .bool b
def CellsOk : List Kd → List Value → Prop
  | [], cs => cs = []
  | k :: r, cs => ∃ v r', cs = v :: r' ∧ k.ok v ∧ CellsOk r r'
theorem CellsOk.append : ∀ {k1 k2 : List Kd} {c1 c2 : List Value}, CellsOk k1 c1 → CellsOk k2 c2 → CellsOk (k1 ++ k2) (c1 ++ c2)
  | [], _, _, _, h1, h2 => by simp only [CellsOk] at h1; subst h1; exact h2
  | k :: r, k2, _, c2, ⟨v, r', h1, h3, h4⟩, h2 => by subst h1; exact ⟨v, r' ++ c2, rfl, h3, CellsOk.append h4 h2⟩
theorem CellsOk.length : ∀ {k : List Kd} {c : List Value}, CellsOk k c → c.length = k.length
  | [], _, h => by simp only [CellsOk] at h; subst h; rfl
  | k :: r, _, ⟨v, r', h1, _, h4⟩ => by subst h1; simp [CellsOk.length h4]

def flatFs (P : Program) (g : TypeId → Option (List Kd)) : List Field → Nat → Option (List Kd)
  | [], _ => some []
  | f :: fs, acc =>
    match g f.type with
    | none => none
    | some a => if f.offset = acc ∧ a.length = P.cellsOf f.type then (flatFs P g fs (acc + a.length)).map (a ++ ·) else none
def flatT (P : Program) : Nat → TypeId → Option (List Kd)
  | 0, _ => none
  | n + 1, t =>
    match P.underlying t with
    | some .bool => some [.bool]
    | some (.int k) => some [.int k]
    | some .string => some [.str]
    | some (.struct fs) => match flatFs P (flatT P n) fs.toList 0 with | some l => if l.length = P.cellsOf t then some l else none | none => none
    | some (.array m e) => match flatT P n e with | some l => if l.length = P.cellsOf e ∧ m * l.length = P.cellsOf t then some (List.replicate m l).flatten else none | none => none
    | _ => none

section
variable {H : Type} {enc : TypeId × Value → H} {P : Program} {w : World} {base : Nat} {spare : Nat → Bool} {held : Bool}

theorem flatFs_ok {g : TypeId → Option (List Kd)} {m : Nat} {cs : List Value} (hg : ∀ t l cs x, g t = some l → DataW.trod enc P w base spare held m t cs = some x → CellsOk l cs) :
    ∀ (fs : List Field) (acc : Nat) (l : List Kd), flatFs P g fs acc = some l → acc + l.length ≤ cs.length → (∀ f ∈ fs, ∃ x, DataW.trod enc P w base spare held m f.type ((cs.drop f.offset).take (P.cellsOf f.type)) = some x) →
      CellsOk l ((cs.drop acc).take l.length)
  | [], acc, l, h, _, _ => by simp only [flatFs, Option.some.injEq] at h; subst h; simp [CellsOk]
  | f :: fs, acc, l, h, hl, hf => by
    simp only [flatFs] at h
    cases hga : g f.type with
    | none => rw [hga] at h; cases h
    | some a =>
      rw [hga] at h
      simp only at h
      split at h
      · rename_i hc
        cases hr : flatFs P g fs (acc + a.length) with
        | none => rw [hr] at h; cases h
        | some b =>
          rw [hr] at h
          simp only [Option.map_some, Option.some.injEq] at h
          subst h
          obtain ⟨x, hx⟩ := hf f List.mem_cons_self
          have h1 := hg _ _ _ _ hga hx
          rw [hc.1, ← hc.2] at h1
          rw [List.length_append] at hl ⊢
          have h2 := flatFs_ok hg fs _ b hr (by omega) (fun f' hf' => hf f' (List.mem_cons_of_mem _ hf'))
          rw [List.take_add, List.drop_drop]
          exact h1.append h2
      · cases h
theorem flatT_ok : ∀ (n : Nat) (t : TypeId) (l : List Kd) (m : Nat) (cs : List Value) (x : DataW H × List MemPlace), flatT P n t = some l → DataW.trod enc P w base spare held m t cs = some x → CellsOk l cs
  | 0, _, _, _, _, _, h, _ => by simp [flatT] at h
  | n + 1, t, l, m, cs, x, h, hx => by
    unfold flatT at h
    cases hu : P.underlying t with
    | none => rw [hu] at h; cases h
    | some d =>
      rw [hu] at h
      cases d <;> simp only [reduceCtorEq, Option.some.injEq] at h
      case bool =>
        subst h
        obtain ⟨b, rfl, _⟩ := DataW.trod_bool hu hx
        exact ⟨_, _, rfl, ⟨b, rfl⟩, rfl⟩
      case int k =>
        subst h
        obtain ⟨b, rfl, _, hw⟩ := DataW.trod_int hu hx
        exact ⟨_, _, rfl, ⟨b, rfl, hw⟩, rfl⟩
      case string =>
        subst h
        obtain ⟨s, rfl, _, hw⟩ := DataW.trod_string hu hx
        exact ⟨_, _, rfl, ⟨s, rfl, hw⟩, rfl⟩
      case struct fs =>
        split at h
        · rename_i l' hl'
          split at h
          · rename_i hlen
            cases h
            obtain ⟨xs, k, rfl, _, hcl, hxl, hf⟩ := DataW.trod_struct hu hx
            have := flatFs_ok (cs := cs) (fun t l cs x h1 h2 => flatT_ok n t l k cs x h1 h2) fs.toList 0 l hl' (by omega) (fun f hfm => by
              obtain ⟨i, hi⟩ := List.getElem?_of_mem hfm
              have hi' : i < fs.toList.length := (List.getElem?_eq_some_iff.1 hi).1
              have hfi := hf i f (by simpa using hi)
              have hix : i < xs.length := by simp at hi'; omega
              exact ⟨xs[i], by rw [hfi, List.getElem?_eq_getElem hix]⟩)
            rw [List.drop_zero, List.take_of_length_le (by omega)] at this
            exact this
          · cases h
        · cases h
      case array q e =>
        split at h
        · rename_i l' hl'
          split at h
          · rename_i hlen
            cases h
            obtain ⟨xs, k, rfl, _, hcl, hxl, hf⟩ := DataW.trod_array hu hx
            have each : ∀ i, i < q → CellsOk l' ((cs.drop (i * P.cellsOf e)).take (P.cellsOf e)) := fun i hi => by
              have hfi := hf i hi
              have hix : i < xs.length := by omega
              rw [List.getElem?_eq_getElem hix] at hfi
              exact flatT_ok n e l' k _ _ hl' hfi
            have key : ∀ j, j ≤ q → CellsOk (List.replicate j l').flatten (cs.take (j * P.cellsOf e)) := by
              intro j
              induction j with
              | zero => intro _; simp [CellsOk]
              | succ j ih =>
                intro hj
                rw [List.replicate_succ', List.flatten_append, Nat.add_mul, Nat.one_mul, List.take_add]
                simp only [List.flatten_cons, List.flatten_nil, List.append_nil]
                exact (ih (by omega)).append (each j (by omega))
            have := key q (Nat.le_refl _)
            rw [List.take_of_length_le (by rw [hcl, ← hlen.2, hlen.1]; exact Nat.le_refl _)] at this
            exact this
          · cases h
        · cases h

/-- The cells of a slice of such values that came in. -/
theorem flat_row {t e : TypeId} {n len cap : Nat} {l : List Kd} {A : Option Addr} {d : DataW H} {ps : List MemPlace} (ht : P.underlying t = some (.slice e)) (hl : flatT P n e = some l) (hsz : P.cellsOf e = l.length)
    (h : DataW.Trod enc P w base spare held t (.slice A len cap) d ps) : ∃ ls : List (List Value), ls.length = len ∧ len ≤ 9223372036854775807 ∧ (∀ c ∈ ls, CellsOk l c) ∧ rowH l.length ls.flatten w (.slice A len cap) := by
  obtain ⟨fuel, hf⟩ := h
  have hmm : maxLen = 9223372036854775807 := rfl
  rcases DataW.trod_slice ht hf with ⟨hcs, _⟩ | ⟨x, ln, cp, elems, rest, m, _, hcs, _, hb, h1, h2, h3, h4, _, _⟩
  · simp [Value.cells] at hcs
    obtain ⟨rfl, rfl, rfl⟩ := hcs
    exact ⟨[], rfl, by omega, by simp, none, 0, 0, rfl, by omega, by omega, by simp, fun _ => rfl, fun j u hu => by simp at hu⟩
  · simp [Value.cells] at hcs
    obtain ⟨rfl, rfl, rfl⟩ := hcs
    have each : ∀ i, i < len → ∃ c, CellsOk l c ∧ ∀ j u, c[j]? = some u → w.cell? (x.add (i * l.length + j)) = some u := fun i hi => by
      have := h4 i hi
      rw [List.getElem?_eq_getElem (by omega), Option.bind_eq_some_iff, hsz] at this
      obtain ⟨c, hc, hc2⟩ := this
      obtain ⟨_, hcl, hcc⟩ := World.cells?_some hc
      refine ⟨c, flatT_ok n e l m _ _ hl hc2, fun j u hu => ?_⟩
      have hj : j < c.length := (List.getElem?_eq_some_iff.1 hu).1
      have := hcc j (by omega)
      rw [hu] at this
      rw [← this]
      congr 1
      unfold Addr.add
      by_cases e1 : i * l.length = 0 <;> by_cases e2 : j = 0 <;> simp [e1, e2, Nat.add_assoc]
      all_goals first | omega | skip
    have build : ∀ k, k ≤ len → ∃ ls : List (List Value), ls.length = k ∧ (∀ c ∈ ls, CellsOk l c) ∧ ∀ j u, ls.flatten[j]? = some u → w.cell? (x.add j) = some u := by
      intro k
      induction k with
      | zero => intro _; exact ⟨[], rfl, by simp, fun j u hu => by simp at hu⟩
      | succ k ih =>
        intro hk
        obtain ⟨ls, hls, hok, hc⟩ := ih (by omega)
        obtain ⟨c, hck, hcc⟩ := each k (by omega)
        have hfl : ls.flatten.length = k * l.length := by
          rw [← hls]
          clear hls hc
          induction ls with
          | nil => simp
          | cons a r ihr => rw [List.flatten_cons, List.length_append, (hok a List.mem_cons_self).length, ihr (fun c hc => hok c (List.mem_cons_of_mem _ hc)), List.length_cons, Nat.add_mul]; omega
        refine ⟨ls ++ [c], by simp [hls], fun c' hc' => by rcases List.mem_append.1 hc' with h | h; exact hok c' h; rw [List.mem_singleton.1 h]; exact hck, fun j u hu => ?_⟩
        rw [List.flatten_append] at hu
        simp only [List.flatten_cons, List.flatten_nil, List.append_nil] at hu
        by_cases hj : j < ls.flatten.length
        · rw [List.getElem?_append_left hj] at hu; exact hc j u hu
        · rw [List.getElem?_append_right (by omega)] at hu
          have := hcc _ u hu
          rw [show k * l.length + (j - ls.flatten.length) = j by omega] at this
          exact this
    obtain ⟨ls, hls, hok, hc⟩ := build len (Nat.le_refl _)
    refine ⟨ls, hls, by omega, hok, some x, len, cap, rfl, h1, by omega, ?_, (fun h => by cases h), fun j u hu => ⟨x, rfl, hc j u hu⟩⟩
    rw [← hls]
    clear hls hc
    induction ls with
    | nil => simp
    | cons a r ihr => rw [List.flatten_cons, List.length_append, (hok a List.mem_cons_self).length, ihr (fun c hc => hok c (List.mem_cons_of_mem _ hc)), List.length_cons, Nat.add_mul]; omega
end
end Go.Free
