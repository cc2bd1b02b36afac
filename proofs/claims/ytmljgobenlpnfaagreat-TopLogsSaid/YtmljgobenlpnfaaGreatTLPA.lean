/-
  Laid together: FreeCore, SortPlain, SortRow, FreeSteps, FreeRows, FlatOpen, FreeFns.
-/
import Derived.Orders
import Derived.Below
import Derived.WalkKit
import Derived.Lib.ConvBytes
import Derived.Laws.BytesArg
import Derived.Laws.OwnMore
import Derived.Laws.MakeOwn
import Derived.Lib.AppendStr
import Derived.Deep.AppendLies
import Derived.Laws.Concat
import Derived.Laws.BitsLemmas
import Derived.WalkLawsBesides
import Derived.WalkSpells
import Derived.ChangeArms
import Derived.ChangeSlices
import Derived.SliceStrings
import Derived.OpenShut
set_option linter.unusedSimpArgs false
set_option linter.unusedVariables false
set_option maxRecDepth 20000

section
namespace Go.Free
open Go.RowKit
structure Pd where
  holds : World → Value → Prop
  mono : ∀ w w' v, Below w.heap.size w w' → holds w v → holds w' v
inductive Fa where
  | ex (v : Value)
  | is (p : Pd)
  | tup (l : List Fa)
  | old (w0 : World) (f : Fa)
mutual
def Fa.den : Fa → World → Value → Prop
  | .ex v, _, x => x = v
  | .is p, w, x => p.holds w x
  | .tup l, w, x => ∃ xs : List Value, x = .tuple xs.toArray ∧ Fa.dens l w xs
  | .old w0 f, _, x => f.den w0 x
def Fa.dens : List Fa → World → List Value → Prop
  | [], _, xs => xs = []
  | f :: fs, w, xs => ∃ y ys, xs = y :: ys ∧ Fa.den f w y ∧ Fa.dens fs w ys
end
mutual
theorem Fa.mono : ∀ (f : Fa) (w w' : World) (v : Value), Below w.heap.size w w' → f.den w v → f.den w' v
  | .ex _, _, _, _, _, h => by simpa [Fa.den] using h
  | .is p, w, w', v, hb, h => by simp only [Fa.den] at h ⊢; exact p.mono w w' v hb h
  | .tup l, w, w', v, hb, h => by
    simp only [Fa.den] at h ⊢
    obtain ⟨xs, rfl, hx⟩ := h
    exact ⟨xs, rfl, Fa.monos l w w' xs hb hx⟩
  | .old _ _, _, _, _, _, h => by simpa only [Fa.den] using h
theorem Fa.monos : ∀ (l : List Fa) (w w' : World) (xs : List Value), Below w.heap.size w w' → Fa.dens l w xs → Fa.dens l w' xs
  | [], _, _, _, _, h => by simpa [Fa.dens] using h
  | f :: fs, w, w', xs, hb, h => by
    simp only [Fa.dens] at h ⊢
    obtain ⟨y, ys, rfl, h1, h2⟩ := h
    exact ⟨y, ys, rfl, Fa.mono f w w' y hb h1, Fa.monos fs w w' ys hb h2⟩
end
def Fa.any : Fa := .is ⟨fun _ _ => True, fun _ _ _ _ _ => trivial⟩
abbrev Env := List (Nat × Fa)
def look : Env → Nat → Option Fa
  | [], _ => none
  | (s, f) :: r, t => if s = t then some f else look r t
def setE : Option Nat → Fa → Env → Env
  | none, _, E => E
  | some d, f, E => (d, f) :: E
end Go.Free
namespace Go
def Act.slot (a : Act) (t : Nat) : Value := a.tmps.getD t undef
end Go
namespace Go.Free
open Go.RowKit
def Sat (E : Env) (a : Act) (w : World) : Prop := ∀ t f, look E t = some f → f.den w (a.slot t)
def dst (ops : Array Oper) (i : Nat) : Option Nat := (ops[i]?).bind (·.dst)
def looks (ops : Array Oper) (i : Nat) : List Nat := ((ops[i]?).map (·.looksAt ops)).getD []
structure Sh (n : Nat) (a : Act) : Prop where
  size : a.tmps.size = n
  defers : a.defers = []
theorem Sh.put {n : Nat} {a : Act} (h : Sh n a) (d : Option Nat) (v : Value) : Sh n (a.put d v) := by
  cases d with
  | none => exact h
  | some d => exact ⟨by simp [Act.put, h.size], by simp [Act.put, h.defers]⟩
theorem slot_put_same {n : Nat} {a : Act} (h : Sh n a) {d : Nat} (hd : d < n) (v : Value) : (a.put (some d) v).slot d = v := by
  have := h.size
  simp [Act.slot, Act.put, this, hd]
theorem slot_put_ne (a : Act) {d t : Nat} (hd : d ≠ t) (v : Value) : (a.put (some d) v).slot t = a.slot t := by
  simp [Act.slot, Act.put, Array.getElem?_setIfInBounds_ne hd]
section
variable (P : Program) (ops : Array Oper) (Q : Exit → Act → World → Prop) (n : Nat) (I : World → Prop)
def Step (i : Nat) (E : Env) (F : Fa) : Prop :=
  ∀ a w, I w → Sh n a → (∀ t, (t ∈ looks ops i ∨ n ≤ t) → ∀ f, look E t = some f → f.den w (a.slot t)) →
    wpOp P ops Q i (fun a' w' => ∃ v, a' = a.put (dst ops i) v ∧ Below w.heap.size w w' ∧ F.den w' v) a w
def Eff (i : Nat) (E : Env) (K : Env → Prop) : Prop :=
  ∀ a w, I w → Sh n a → Sat E a w → wpOp P ops Q i (fun a' w' => ∃ E', K E' ∧ I w' ∧ Sh n a' ∧ Sat E' a' w') a w
def ordB (ops : Array Oper) (i j : Nat) : Bool := ((Region.before ops).getD (max i j) 0).testBit (min i j)
def given (o : Oper) : Option (Nat × Value) :=
  match o.dst, o.op, o.guard with
  | some d, .assign (.const v), none => if o.pos == "given" then some (d, v) else none
  | _, _, _ => none
def gv (ops : Array Oper) (i : Nat) : Option (Nat × Value) := (ops[i]?).bind given
def freeB (ops : Array Oper) (i : Nat) : Bool := (gv ops i).isSome
def barB (ops : Array Oper) (i : Nat) : Bool := !freeB ops i && (List.range ops.size).all fun j => j == i || freeB ops j || ordB ops i j
def Plan (d : Bool) : Nat → Nat → Env → Prop
  | 0, _, E => ∀ a w, I w → Sh n a → Sat E a w → Q .normal a w
  | k + 1, i, E => (∃ F, Step P ops Q n I i E F ∧ Plan d k (i + 1) (setE (dst ops i) F E)) ∨ ((d = false ∨ barB ops i = true) ∧ Eff P ops Q n I i E (fun E' => Plan d k (i + 1) E'))
end
def closed (ops : Array Oper) (L : Nat → Prop) : Prop := ∀ j o, ops[j]? = some o → L j → ∀ e ∈ o.after, Region.binds .any e = true → L e.on
theorem getD_push_last {α : Type} (acc : Array α) (x d : α) : (acc.push x).getD acc.size d = x := by simp [Array.getD]
theorem foldl_bits (L : Nat → Prop) (acc : Array Nat) (hacc : ∀ (k : Nat) j, L k → (acc.getD k 0).testBit j = true → L j) :
    ∀ (es : List Edge) (s : Nat), (∀ e ∈ es, Region.binds .any e = true → L e.on) → (∀ j, s.testBit j = true → L j) →
      ∀ j, (es.foldl (fun s e => if Region.binds .any e then s ||| 2 ^ e.on ||| acc.getD e.on 0 else s) s).testBit j = true → L j
  | [], s, _, hs => by simpa using hs
  | e :: es, s, he, hs => by
    simp only [List.foldl_cons]
    refine foldl_bits L acc hacc es _ (fun e' h' => he e' (List.mem_cons_of_mem _ h')) ?_
    intro j hj
    split at hj
    · rename_i hb
      have hon := he e (List.mem_cons_self) hb
      simp only [Nat.testBit_or, Bool.or_eq_true] at hj
      rcases hj with (hj | hj) | hj
      · exact hs j hj
      · rw [Nat.testBit_two_pow] at hj
        simp at hj
        exact hj ▸ hon
      · exact hacc _ j hon hj
    · exact hs j hj
theorem before_closed (ops : Array Oper) (L : Nat → Prop) (hL : closed ops L) (j k : Nat) (hj : L j) (h : ((Region.before ops).getD j 0).testBit k = true) : L k := by
  have key : ∀ (l : List Oper) (acc : Array Nat), (∀ (m : Nat) o, l[m]? = some o → ops[acc.size + m]? = some o) → (∀ (k : Nat) j, L k → (acc.getD k 0).testBit j = true → L j) →
      ∀ (k : Nat) j, L k → ((l.foldl (fun acc o => acc.push (o.after.foldl (fun s e => if Region.binds .any e then s ||| 2 ^ e.on ||| acc.getD e.on 0 else s) 0)) acc).getD k 0).testBit j = true → L j := by
    intro l
    induction l with
    | nil => intro acc _ hacc; simpa using hacc
    | cons o l ih =>
      intro acc hl hacc
      simp only [List.foldl_cons]
      refine ih _ ?_ ?_
      · intro m o' hm
        have := hl (m + 1) o' (by simpa using hm)
        simp only [Array.size_push]
        rw [← this]; congr 1; omega
      · intro k j hk hb
        by_cases hkk : k < acc.size
        · refine hacc k j hk ?_
          rw [← hb]
          simp [Array.getD, hkk, Nat.lt_succ_of_lt hkk, Array.getElem_push_lt hkk]
        · by_cases hke : k = acc.size
          · subst hke
            have ho := hl 0 o (by simp)
            simp only [Nat.add_zero] at ho
            rw [getD_push_last, ← Array.foldl_toList] at hb
            exact foldl_bits L acc hacc _ 0 (fun e he hbd => hL _ o ho hk e (by simpa using he) hbd) (by simp) j hb
          · have : ¬ k < acc.size + 1 := by omega
            simp [Array.getD, this] at hb
  have h0 := key ops.toList #[] (by simp) (by simp)
  unfold Region.before at h
  rw [← Array.foldl_toList] at h
  exact h0 j k hj h
def tidy (ops : Array Oper) (n : Nat) : Bool :=
  let b := Region.before ops
  (ops.all fun o => match o.op with | .select .. => false | _ => true) &&
  (List.range ops.size).all fun i =>
    (match ops[i]? with
     | none => true
     | some o => o.after.all (fun e => !Region.binds .any e || e.on < i) && (match o.dst with | some d => d < n | none => true)) &&
    (looks ops i ++ (dst ops i).toList).all fun t =>
      (List.range ops.size).all fun j => dst ops j != some t || i == j || (b.getD (max i j) 0).testBit (min i j)
theorem tidy_edges {ops : Array Oper} {n : Nat} (h : tidy ops n = true) {i : Nat} {o : Oper} (ho : ops[i]? = some o) : ∀ e ∈ o.after, Region.binds .any e = true → e.on < i := by
  intro e he hb
  have hlt : i < ops.size := (Array.getElem?_eq_some_iff.1 ho).1
  simp only [tidy, Bool.and_eq_true, List.all_eq_true, List.mem_range] at h
  have h1 := (h.2 i hlt).1
  rw [ho] at h1
  simp only [Bool.and_eq_true] at h1
  have h2 := Array.all_eq_true_iff_forall_mem.1 h1.1 e he
  simpa [hb] using h2
theorem tidy_dst {ops : Array Oper} {n : Nat} (h : tidy ops n = true) {i d : Nat} (hd : dst ops i = some d) : d < n := by
  have hlt : i < ops.size := by
    rcases Nat.lt_or_ge i ops.size with h' | h'
    · exact h'
    · simp [dst, Array.getElem?_eq_none h'] at hd
  simp only [tidy, Bool.and_eq_true, List.all_eq_true, List.mem_range] at h
  have h1 := (h.2 i hlt).1
  have ho : ops[i]? = some ops[i] := Array.getElem?_eq_getElem hlt
  rw [ho] at h1
  simp only [Bool.and_eq_true] at h1
  have hd' : ops[i].dst = some d := by simpa [dst, ho] using hd
  rw [hd'] at h1
  simpa using h1.2
theorem tidy_order {ops : Array Oper} {n : Nat} (h : tidy ops n = true) {i j t : Nat} (hi : i < ops.size) (ht : t ∈ looks ops i ∨ dst ops i = some t) (hj : dst ops j = some t) (hne : i ≠ j) :
    ((Region.before ops).getD (max i j) 0).testBit (min i j) = true := by
  have hjl : j < ops.size := by
    rcases Nat.lt_or_ge j ops.size with h' | h'
    · exact h'
    · simp [dst, Array.getElem?_eq_none h'] at hj
  simp only [tidy, Bool.and_eq_true, List.all_eq_true, List.mem_range] at h
  have h1 := (h.2 i hi).2 t (by
    rcases ht with ht | ht
    · exact List.mem_append_left _ ht
    · exact List.mem_append_right _ (by simp [ht]))  j hjl
  simpa [hj, hne] using h1
/-! ### Any order, by lists -/
theorem before_lt {ops : Array Oper} {n : Nat} (ht : tidy ops n = true) {j m : Nat} (hm : ((Region.before ops).getD j 0).testBit m = true) : m < j := by
  unfold Region.before at hm
  rw [← Array.foldl_toList] at hm
  have gen : ∀ (l : List Oper) (acc : Array Nat), (∀ (m : Nat) o, l[m]? = some o → ops[acc.size + m]? = some o) → (∀ (k : Nat) m, (acc.getD k 0).testBit m = true → m < k) →
      ∀ (k : Nat) m, ((l.foldl (fun acc o => acc.push (o.after.foldl (fun s e => if Region.binds .any e then s ||| 2 ^ e.on ||| acc.getD e.on 0 else s) 0)) acc).getD k 0).testBit m = true → m < k := by
    intro l
    induction l with
    | nil => intro acc _ hacc; simpa using hacc
    | cons o l ih =>
      intro acc hl hacc
      simp only [List.foldl_cons]
      refine ih _ ?_ ?_
      · intro m o' hm
        have := hl (m + 1) o' (by simpa using hm)
        simp only [Array.size_push]
        rw [← this]; congr 1; omega
      · intro k m hb
        by_cases hkk : k < acc.size
        · refine hacc k m ?_
          rw [← hb]
          simp [Array.getD, hkk, Nat.lt_succ_of_lt hkk, Array.getElem_push_lt hkk]
        · by_cases hke : k = acc.size
          · subst hke
            have ho := hl 0 o (by simp)
            simp only [Nat.add_zero] at ho
            rw [getD_push_last, ← Array.foldl_toList] at hb
            exact foldl_bits (fun x => x < acc.size) acc (fun k j hk hb => Nat.lt_trans (hacc k j hb) hk) _ 0 (fun e he hbd => tidy_edges ht ho e (by simpa using he) hbd) (by simp) m hb
          · have : ¬ k < acc.size + 1 := by omega
            simp [Array.getD, this] at hb
  exact gen ops.toList #[] (by simp) (by simp) j m hm
theorem ready_before {ops : Array Oper} {n : Nat} (ht : tidy ops n = true) {listed : Array Bool} (hc : closed ops (fun j => listed.getD j false = true)) {i : Nat} (hr : i ∈ Region.ready .any ops listed) {j : Nat}
    (hj : ((Region.before ops).getD i 0).testBit j = true) : listed.getD j false = true := by
  obtain ⟨_, o, ho, hall⟩ := mem_ready.1 hr
  have hc2 : closed ops (fun k => listed.getD k false = true ∨ k = i) := by
    intro k ok hk hL e he hb
    rcases hL with hL | rfl
    · exact .inl (hc k ok hk hL e he hb)
    · rw [ho] at hk; cases hk; exact .inl (hall e he hb)
  rcases before_closed ops _ hc2 i j (.inr rfl) hj with h1 | h1
  · exact h1
  · have := before_lt ht hj; omega
theorem all_listed {ops : Array Oper} {listed : Array Bool} {n : Nat} (ht : tidy ops n = true) (hs : listed.size = ops.size) (hr : Region.ready .any ops listed = []) :
    ∀ j, j < ops.size → listed.getD j false = true := by
  intro j
  induction j using Nat.strongRecOn with
  | _ j ih =>
    intro hj
    cases hL : listed.getD j false with
    | true => rfl
    | false =>
      exfalso
      have ho : ops[j]? = some ops[j] := Array.getElem?_eq_getElem hj
      have : j ∈ Region.ready .any ops listed := by
        refine mem_ready.2 ⟨?_, ops[j], ho, fun e he hb => ?_⟩
        · have : j < listed.size := by omega
          simpa [Array.getD, this] using hL
        · have := tidy_edges ht ho e he hb
          exact ih e.on this (by omega)
      rw [hr] at this
      cases this
theorem getD_set_same {listed : Array Bool} {i : Nat} (h : i < listed.size) : (listed.setIfInBounds i true).getD i false = true := by
  simp [Array.getD, h]
section
variable {P : Program} {ops : Array Oper} {Q : Exit → Act → World → Prop} {n : Nat} {I : World → Prop}
theorem Sat.step {E : Env} {a : Act} {w w' : World} {i : Nat} {v : Value} {F : Fa} (ht : tidy ops n = true) (hsh : Sh n a) (hs : Sat E a w) (hb : Below w.heap.size w w') (hF : F.den w' v) :
    Sat (setE (dst ops i) F E) (a.put (dst ops i) v) w' := by
  intro t f hf
  cases hd : dst ops i with
  | none => rw [hd] at hf; exact Fa.mono f w w' _ hb (hs t f hf)
  | some d =>
    rw [hd] at hf
    simp only [setE, look] at hf
    by_cases hdt : d = t
    · subst hdt
      simp only [if_true, Option.some.injEq] at hf
      subst hf
      rw [slot_put_same hsh (tidy_dst ht hd)]
      exact hF
    · rw [if_neg hdt] at hf
      rw [slot_put_ne a hdt]
      exact Fa.mono f w w' _ hb (hs t f hf)
theorem Eff.mono {i : Nat} {E : Env} {K K' : Env → Prop} (hk : ∀ E, K E → K' E) (h : Eff P ops Q n I i E K) : Eff P ops Q n I i E K' := fun a w h1 h2 h3 =>
  wpOp_mono (fun _ _ ⟨E', g1, g2⟩ => ⟨E', hk E' g1, g2⟩) (h a w h1 h2 h3)
theorem Sat.congr {E E' : Env} {a : Act} {w : World} (h : ∀ t, look E t = look E' t) (hs : Sat E a w) : Sat E' a w := fun t f hf => hs t f (by rw [h t]; exact hf)
theorem step_congr {i : Nat} {E E' : Env} {F : Fa} (h : ∀ t, t ∈ looks ops i ∨ n ≤ t → look E t = look E' t) (hs : Step P ops Q n I i E F) : Step P ops Q n I i E' F :=
  fun a w h1 h2 h3 => hs a w h1 h2 fun t ht f hf => h3 t ht f (by rw [← h t ht]; exact hf)
theorem look_setE_ne {d : Option Nat} {F : Fa} {E : Env} {t : Nat} (h : d ≠ some t) : look (setE d F E) t = look E t := by
  cases d with
  | none => rfl
  | some e => simp only [setE, look]; rw [if_neg (fun he => h (by rw [he]))]
theorem look_setE_same {d : Nat} {F : Fa} {E : Env} : look (setE (some d) F E) d = some F := by simp [setE, look]
theorem look_setE_comm {d e : Option Nat} {F G : Fa} {E : Env} (h : ∀ t, d = some t → e ≠ some t) (t : Nat) : look (setE d F (setE e G E)) t = look (setE e G (setE d F E)) t := by
  by_cases h1 : d = some t
  · have h2 : e ≠ some t := h t h1
    rw [look_setE_ne (d := e) h2]
    subst h1
    rw [look_setE_same, look_setE_same]
  · rw [look_setE_ne h1]
    by_cases h2 : e = some t
    · subst h2; rw [look_setE_same, look_setE_same]
    · rw [look_setE_ne h2, look_setE_ne h2, look_setE_ne h1]
theorem look_setE_congr {d : Option Nat} {F : Fa} {E E' : Env} (h : ∀ t, look E t = look E' t) (t : Nat) : look (setE d F E) t = look (setE d F E') t := by
  by_cases h1 : d = some t
  · subst h1; rw [look_setE_same, look_setE_same]
  · rw [look_setE_ne h1, look_setE_ne h1, h t]
section
variable (P ops Q n I)
def PlanL : List Nat → Env → Prop
  | [], E => ∀ a w, I w → Sh n a → Sat E a w → Q .normal a w
  | i :: r, E => (∃ F, Step P ops Q n I i E F ∧ PlanL r (setE (dst ops i) F E)) ∨ (barB ops i = true ∧ Eff P ops Q n I i E (fun E' => PlanL r E'))
end
theorem planL_of : ∀ (k i : Nat) (E : Env), Plan P ops Q n I true k i E → PlanL P ops Q n I (List.range' i k) E
  | 0, _, _, h => h
  | k + 1, i, E, h => by
    rw [List.range'_succ]
    rcases h with ⟨F, hst, hp⟩ | ⟨hd, heff⟩
    · exact .inl ⟨F, hst, planL_of k (i + 1) _ hp⟩
    · exact .inr ⟨hd.resolve_left (by simp), heff.mono fun E' h => planL_of k (i + 1) E' h⟩
theorem PlanL.congr : ∀ {l : List Nat} {E E' : Env}, (∀ t, look E t = look E' t) → PlanL P ops Q n I l E → PlanL P ops Q n I l E'
  | [], _, _, h, hp => fun a w h1 h2 h3 => hp a w h1 h2 (h3.congr fun t => (h t).symm)
  | i :: r, E, E', h, hp => by
    rcases hp with ⟨F, hst, hp⟩ | ⟨hb, heff⟩
    · exact .inl ⟨F, step_congr (fun t _ => h t) hst, PlanL.congr (look_setE_congr h) hp⟩
    · exact .inr ⟨hb, fun a w h1 h2 h3 => heff a w h1 h2 (h3.congr fun t => (h t).symm)⟩
structure Apt (ops : Array Oper) (n i j : Nat) : Prop where
  ij : ∀ d, dst ops i = some d → d ∉ looks ops j
  ji : ∀ d, dst ops j = some d → d ∉ looks ops i
  ne : ∀ d, dst ops i = some d → dst ops j ≠ some d
theorem apt_of (ht : tidy ops n = true) {i j : Nat} (hi : i < ops.size) (hj : j < ops.size) (hne : i ≠ j) (ho : ordB ops i j = false) : Apt ops n i j := by
  have ho' : ((Region.before ops).getD (max j i) 0).testBit (min j i) = false := by rw [Nat.max_comm, Nat.min_comm]; exact ho
  refine ⟨fun d hd hl => ?_, fun d hd hl => ?_, fun d hd hd2 => ?_⟩
  · have := tidy_order ht hj (.inl hl) hd (Ne.symm hne)
    rw [ho'] at this; cases this
  · have := tidy_order ht hi (.inl hl) hd hne
    unfold ordB at ho; rw [ho] at this; cases this
  · have := tidy_order ht hj (.inr hd2) hd (Ne.symm hne)
    rw [ho'] at this; cases this
theorem PlanL.bring (ht : tidy ops n = true) {y : Nat} {l2 : List Nat} (hby : barB ops y = false) : ∀ {l1 : List Nat} {E : Env}, (∀ x ∈ l1, Apt ops n x y ∧ barB ops x = false) → PlanL P ops Q n I (l1 ++ y :: l2) E → PlanL P ops Q n I (y :: (l1 ++ l2)) E
  | [], _, _, h => h
  | x :: l1, E, ha, h => by
    obtain ⟨hap, hbx⟩ := ha x List.mem_cons_self
    rcases h with ⟨F, hst, hp⟩ | ⟨hb, _⟩
    · rcases PlanL.bring ht hby (fun z hz => ha z (List.mem_cons_of_mem _ hz)) hp with ⟨G, hsy, hp2⟩ | ⟨hb, _⟩
      · refine .inl ⟨G, step_congr (fun t htt => look_setE_ne fun he => ?_) hsy, .inl ⟨F, step_congr (fun t htt => (look_setE_ne fun he => ?_).symm) hst, PlanL.congr (look_setE_comm fun t h1 h2 => hap.ne t h2 h1) hp2⟩⟩
        · rcases htt with htt | htt
          · exact hap.ij t he htt
          · have := tidy_dst ht he; omega
        · rcases htt with htt | htt
          · exact hap.ji t he htt
          · have := tidy_dst ht he; omega
      · rw [hby] at hb; cases hb
    · rw [hbx] at hb; cases hb
end
/-! ### Given operations, at any time -/
theorem given_spec {o : Oper} {d : Nat} {v : Value} (h : given o = some (d, v)) : o.dst = some d ∧ o.op = .assign (.const v) ∧ o.guard = none := by
  unfold given at h
  split at h
  · rename_i d' v' h1 h2 h3
    split at h
    · simp only [Option.some.injEq, Prod.mk.injEq] at h
      obtain ⟨rfl, rfl⟩ := h
      exact ⟨h1, h2, h3⟩
    · cases h
  · cases h
theorem gv_spec {ops : Array Oper} {u d : Nat} {v : Value} (h : gv ops u = some (d, v)) : ∃ o, ops[u]? = some o ∧ o.dst = some d ∧ o.op = .assign (.const v) ∧ o.guard = none := by
  unfold gv at h
  cases ho : ops[u]? with
  | none => rw [ho] at h; cases h
  | some o => rw [ho] at h; exact ⟨o, rfl, given_spec h⟩
theorem free_of {ops : Array Oper} {u d : Nat} {v : Value} (h : gv ops u = some (d, v)) : freeB ops u = true := by simp [freeB, h]
theorem bar_free {ops : Array Oper} {i : Nat} (h : freeB ops i = true) : barB ops i = false := by simp [barB, h]
theorem bar_ord {ops : Array Oper} {i j : Nat} (h : barB ops i = true) (hj : j < ops.size) (hne : j ≠ i) (hf : freeB ops j = false) : ordB ops i j = true := by
  simp only [barB, Bool.and_eq_true, List.all_eq_true, List.mem_range] at h
  have := h.2 j hj
  simpa [hne, hf] using this
theorem slot_get {n : Nat} {a : Act} (h : Sh n a) (t : Nat) : a.tmps[t]? = if t < n then some (a.slot t) else none := by
  have := h.size
  by_cases ht : t < n
  · have hlt : t < a.tmps.size := by omega
    simp [Act.slot, ht, Array.getD, hlt]
  · rw [if_neg ht, Array.getElem?_eq_none (by omega)]
theorem eval_agree {a b : Act} {x : Operand} (h : ∀ t, x = .tmp t → a.slot t = b.slot t) : a.eval x = b.eval x := by
  cases x with
  | tmp t => have := h t rfl; simpa [Act.slot, Act.eval] using this
  | _ => rfl
section
variable {P : Program} {ops : Array Oper} {Q : Exit → Act → World → Prop} {n : Nat} {I : World → Prop}
theorem no_select (ht : tidy ops n = true) {i : Nat} {o : Oper} (ho : ops[i]? = some o) : ∀ cs b, o.op ≠ .select cs b := by
  intro cs b he
  simp only [tidy, Bool.and_eq_true] at ht
  have := Array.all_eq_true_iff_forall_mem.1 ht.1 o (Array.mem_of_getElem? ho)
  rw [he] at this
  cases this
theorem wpOp_frame (ht : tidy ops n = true) {i : Nat} {K : Act → World → Prop} {a b : Act} {w : World} (hi : i < ops.size) (ha : Sh n a) (hb : Sh n b) (hag : ∀ t ∈ looks ops i, a.slot t = b.slot t) (hQ : ∀ c a b w, Q (.panic c) a w → Q (.panic c) b w)
    (h : wpOp P ops Q i K b w) : wpOp P ops Q i (fun a' w' => (∃ v, a' = a.put (dst ops i) v ∧ K (b.put (dst ops i) v) w') ∨ ∃ b', b'.defers ≠ [] ∧ K b' w') a w := by
  have ho : ops[i]? = some ops[i] := Array.getElem?_eq_getElem hi
  have hdst : dst ops i = (ops[i]).dst := by simp [dst, ho]
  have hlook : looks ops i = (ops[i]).looksAt ops := by simp [looks, ho]
  have hex : execOp a.eval ops[i] = execOp b.eval ops[i] := execOp_congr _ (no_select ht ho) fun x hx => eval_agree fun t htt => hag t (by
    rw [hlook]; subst htt
    exact List.mem_append_left _ (List.mem_filterMap.2 ⟨.tmp t, by simpa using hx, rfl⟩))
  have hwn : Region.wanted ops[i] (yielded ops a.tmps) = Region.wanted ops[i] (yielded ops b.tmps) := by
    unfold Region.wanted
    cases hg : (ops[i]).guard with
    | none => rfl
    | some gw =>
      obtain ⟨g, want⟩ := gw
      have hy : yielded ops a.tmps g = yielded ops b.tmps g := by
        unfold yielded
        cases htt : (ops[g]?).bind (·.dst) with
        | none => rfl
        | some t =>
          have hs := hag t (by rw [hlook]; simp [Oper.looksAt, hg, htt])
          simp only [Option.bind_some, slot_get ha, slot_get hb, hs]
      simp only [hy]
  unfold wpOp at *
  simp only [ho, hwn] at h ⊢
  split
  · rename_i hw
    simp only [hw, if_true] at h
    rcases h with h | h
    · refine .inl ?_
      unfold Oper.wp at *
      rw [hex]
      generalize (execOp b.eval ops[i]).run P w = r at *
      cases r with
      | ok x w' =>
        cases x <;> simp only [Oper.upon] at h ⊢
        case value v => exact .inl ⟨v, by rw [hdst], by rw [hdst]; exact h⟩
        case skip => exact .inl ⟨undef, by rw [hdst], by rw [hdst]; exact h⟩
        case defer d => exact .inr ⟨_, by cases (ops[i]).dst <;> simp [Act.put], h⟩
        case enter f args =>
          refine Calls.mono h (fun e w'' he => ?_)
          cases e with
          | returned v => exact .inl ⟨v, by rw [hdst], by rw [hdst]; exact he⟩
          | panicked c => exact hQ _ _ _ _ he
          | outgrown => exact he
        case row row args =>
          exact Rows.mono h (fun v w'' he => .inl ⟨v, by rw [hdst], by rw [hdst]; exact he⟩)
      | halt x w' =>
        cases x <;> simp only [Oper.upon] at h ⊢
        exact hQ _ _ _ _ h
    · refine .inr ⟨?_, h.2⟩
      have h1 := h.1
      unfold Oper.asks at *
      rw [hex]; exact h1
  · rename_i hw
    simp only [hw] at h
    exact .inl ⟨undef, by rw [hdst], by rw [hdst]; exact h⟩
theorem PlanL.pass {u d : Nat} {v : Value} {l : List Nat} {E : Env} {a : Act} {w : World} (ht : tidy ops n = true) (hL : ¬ LetsOut Q) (hg : gv ops u = some (d, v)) (hd : d < n) (hI : I w) (hsh : Sh n a) (hs : Sat E a w) (hv : a.slot d = v) (h : PlanL P ops Q n I (u :: l) E) :
    ∃ E', PlanL P ops Q n I l E' ∧ Sat E' a w := by
  rcases h with ⟨F, hst, hp⟩ | ⟨hb, _⟩
  · refine ⟨_, hp, ?_⟩
    obtain ⟨o, ho, h1, h2, h3⟩ := gv_spec hg
    have hw := hst a w hI hsh (fun t _ f hf => hs t f hf)
    unfold wpOp at hw
    have hwn : Region.wanted o (yielded ops a.tmps) = true := by simp [Region.wanted, h3]
    simp only [ho, hwn, if_true] at hw
    rcases hw with hw | hw
    · simp only [Oper.wp, execOp, h2, Sem.run_pure, Oper.upon] at hw
      obtain ⟨v', he, _, hF⟩ := hw
      have hdst : dst ops u = some d := by simp [dst, ho, h1]
      rw [hdst, h1] at he
      have e1 := congrArg (fun x => Act.slot x d) he
      simp only [slot_put_same hsh hd] at e1
      have e2 : v' = v := by rw [← e1]; rfl
      subst e2
      rw [hdst]
      intro t f hf
      by_cases htd : d = t
      · subst htd
        rw [look_setE_same] at hf
        cases hf
        rw [hv]; exact hF
      · rw [look_setE_ne (fun e => htd (by cases e; rfl))] at hf
        exact hs t f hf
    · exact absurd hw.2 hL
  · rw [bar_free (free_of hg)] at hb; cases hb
structure Free1 (ops : Array Oper) (n : Nat) : Prop where
  lt : ∀ u d v, gv ops u = some (d, v) → d < n
  one : ∀ u d v, gv ops u = some (d, v) → ∀ j, j ≠ u → dst ops j ≠ some d
  seen : ∀ u d v, gv ops u = some (d, v) → ∀ j, d ∈ looks ops j → ((Region.before ops).getD j 0).testBit u = true
theorem looks_free {u d : Nat} {v : Value} (hg : gv ops u = some (d, v)) : looks ops u = [] := by
  obtain ⟨o, ho, h1, h2, h3⟩ := gv_spec hg
  simp [looks, ho, Oper.looksAt, h2, h3, Op.operands]
theorem PlanL.passAll (ht : tidy ops n = true) (hF : Free1 ops n) (hL : ¬ LetsOut Q) {a : Act} {w : World} (hI : I w) (hsh : Sh n a) (hv : ∀ u d v, gv ops u = some (d, v) → a.slot d = v) {l2 : List Nat} :
    ∀ {l1 m : List Nat} {E : Env}, (∀ x ∈ m, freeB ops x = false) → (∀ x ∈ m ++ l1, barB ops x = false) → (m ++ l1).Pairwise (· < ·) → PlanL P ops Q n I (m ++ (l1 ++ l2)) E → Sat E a w →
      ∃ E', PlanL P ops Q n I (m ++ (l1.filter (fun x => !freeB ops x) ++ l2)) E' ∧ Sat E' a w
  | [], m, E, _, _, _, hp, hs => ⟨E, hp, hs⟩
  | x :: l1, m, E, hm, hb, hso, hp, hs => by
    by_cases hf : freeB ops x = true
    · obtain ⟨⟨d, v⟩, hg⟩ := Option.isSome_iff_exists.1 (show (gv ops x).isSome = true from hf)
      have hbr : PlanL P ops Q n I (x :: (m ++ (l1 ++ l2))) E := by
        refine PlanL.bring ht (hb x (by simp)) (fun y hy => ⟨⟨fun e he hl => ?_, fun e he hl => ?_, fun e he he2 => ?_⟩, hb y (by simp [hy])⟩) hp
        · rw [looks_free hg] at hl; cases hl
        · obtain ⟨o, ho, h1, _⟩ := gv_spec hg
          have : d = e := by simpa [dst, ho, h1] using he
          subst this
          have := before_lt ht (hF.seen x d v hg y hl)
          have hlt : y < x := (List.pairwise_append.1 hso).2.2 y hy x List.mem_cons_self
          omega
        · obtain ⟨o, ho, h1, _⟩ := gv_spec hg
          have : d = e := by simpa [dst, ho, h1] using he2
          subst this
          have hlt : y < x := (List.pairwise_append.1 hso).2.2 y hy x List.mem_cons_self
          exact hF.one x d v hg y (by omega) he
      obtain ⟨E', hp', hs'⟩ := PlanL.pass ht hL hg (hF.lt x d v hg) hI hsh hs (hv x d v hg) hbr
      obtain ⟨E2, h1, h2⟩ := PlanL.passAll ht hF hL hI hsh hv (l1 := l1) (m := m) hm (fun y hy => hb y (by
        rcases List.mem_append.1 hy with h | h
        · simp [h]
        · simp [h])) (hso.sublist (List.Sublist.append_left (List.sublist_cons_self _ _) _)) hp' hs'
      exact ⟨E2, by simpa [List.filter_cons, hf] using h1, h2⟩
    · have hf' : freeB ops x = false := by simpa using hf
      have e1 : m ++ (x :: l1 ++ l2) = (m ++ [x]) ++ (l1 ++ l2) := by simp
      rw [e1] at hp
      obtain ⟨E2, h1, h2⟩ := PlanL.passAll ht hF hL hI hsh hv (l1 := l1) (m := m ++ [x]) (fun y hy => by
        rcases List.mem_append.1 hy with h | h
        · exact hm y h
        · rw [List.mem_singleton.1 h]; exact hf') (fun y hy => hb y (by simpa using hy)) (by simpa using hso) hp hs
      exact ⟨E2, by simpa [List.filter_cons, hf'] using h1, h2⟩
end
/-! ### The region, run -/
structure Rel (ro vo : Array Oper) (n : Nat) : Prop where
  size : vo.size = ro.size
  same : ∀ i, freeB vo i = false → vo[i]? = ro[i]?
  dst : ∀ i, dst vo i = dst ro i
  before : Region.before vo = Region.before ro
  tidyV : tidy vo n = true
  tidyR : tidy ro n = true
  free : Free1 vo n
section
variable {P : Program} {ro vo : Array Oper} {Q : Exit → Act → World → Prop} {n : Nat} {I : World → Prop} {Es : Env}
theorem wpOp_same {i : Nat} {K : Act → World → Prop} {a : Act} {w : World} (h : vo[i]? = ro[i]?) (hd : ∀ j, dst vo j = dst ro j) (hw : wpOp P vo Q i K a w) : wpOp P ro Q i K a w := by
  have hy : yielded vo a.tmps = yielded ro a.tmps := by
    funext j
    have := hd j
    unfold dst at this
    unfold yielded
    rw [this]
  unfold wpOp at *
  rw [h] at hw
  cases hr : ro[i]? with
  | none => rw [hr] at hw; exact hw
  | some o => rw [hr] at hw; simp only [hy] at hw; exact hw
structure LInv (P : Program) (ro vo : Array Oper) (Q : Exit → Act → World → Prop) (n : Nat) (I : World → Prop) (Es : Env) (listed : Array Bool) (a : Act) (w : World) (b : Act) (rem : List Nat) (E : Env) : Prop where
  size : listed.size = ro.size
  closed : closed ro (fun j => listed.getD j false = true)
  inv : I w
  sh : Sh n a
  shv : Sh n b
  plan : PlanL P vo Q n I rem E
  sat : Sat E b w
  sorted : rem.Pairwise (· < ·)
  lt : ∀ i ∈ rem, i < ro.size
  non : ∀ i, i < ro.size → freeB vo i = false → (i ∈ rem ↔ listed.getD i false = false)
  agree : ∀ t, (∀ u d v, gv vo u = some (d, v) → d ≠ t) → a.slot t = b.slot t
  virt : ∀ u d v, gv vo u = some (d, v) → b.slot d = v
  real : ∀ u d v, gv vo u = some (d, v) → listed.getD u false = true → a.slot d = v
  es : (∃ u, freeB vo u = true) → Sat Es a w
  eq : (∀ u, freeB vo u = false) → a = b
theorem ordB_comm (ops : Array Oper) (i j : Nat) : ordB ops i j = ordB ops j i := by unfold ordB; rw [Nat.max_comm, Nat.min_comm]
theorem closed_next {ops : Array Oper} {listed : Array Bool} (hc : closed ops (fun j => listed.getD j false = true)) {i : Nat} (hr : i ∈ Region.ready .any ops listed) : closed ops (fun j => (listed.setIfInBounds i true).getD j false = true) := by
  obtain ⟨_, o, ho, hall⟩ := mem_ready.1 hr
  intro j oj hj hL e he hbd
  by_cases hji : j = i
  · subst hji
    rw [ho] at hj; cases hj
    exact getD_set_true (hall e he hbd)
  · rw [getD_set_ne false (Ne.symm hji)] at hL
    exact getD_set_true (hc j oj hj hL e he hbd)
theorem count_next {m : Nat} {listed : Array Bool} {i fuel : Nat} (hil : i < listed.size) (him : i < m) (hun : listed.getD i false = false) (hk : ((List.range m).filter fun j => !listed.getD j false).length ≤ fuel + 1) :
    ((List.range m).filter fun j => !(listed.setIfInBounds i true).getD j false).length ≤ fuel := by
  have hlt : ((List.range m).filter fun j => !(listed.setIfInBounds i true).getD j false).length < ((List.range m).filter fun j => !listed.getD j false).length := by
    have hsub : ((List.range m).filter fun j => !(listed.setIfInBounds i true).getD j false) = (((List.range m).filter fun j => !listed.getD j false).filter fun j => j != i) := by
      rw [List.filter_filter]
      refine List.filter_congr fun j _ => ?_
      by_cases hji : j = i
      · subst hji; simp [getD_set_same hil]
      · simp [getD_set_ne false (Ne.symm hji), hji]
    rw [hsub]
    refine List.length_filter_lt_length_iff_exists.2 ⟨i, ?_, by simp⟩
    rw [List.mem_filter]; exact ⟨List.mem_range.2 him, by simp only [hun]; rfl⟩
  omega
theorem loose_run (R : Rel ro vo n) (hL : (∃ u, freeB vo u = true) → ¬ LetsOut Q) (hQ : (∃ u, freeB vo u = true) → ∀ c a b w, Q (.panic c) a w → Q (.panic c) b w) (hI : ∀ w w', I w → Below w.heap.size w w' → I w')
    (hes : ∀ t f, look Es t = some f → (∀ w w' v, f.den w v → f.den w' v) ∧ ∀ j, dst ro j ≠ some t)
    (hob : ∀ u d v, gv vo u = some (d, v) → ∀ a w, I w → Sh n a → Sat Es a w → (∀ u' d' v', gv vo u' = some (d', v') → ((Region.before ro).getD u 0).testBit u' = true → a.slot d' = v') → wpOp P ro Q u (fun a' w' => a' = a.put (some d) v ∧ Below w.heap.size w w') a w) :
    ∀ (fuel : Nat) (listed : Array Bool) (a : Act) (w : World) (b : Act) (rem : List Nat) (E : Env), LInv P ro vo Q n I Es listed a w b rem E → ((List.range ro.size).filter fun j => !listed.getD j false).length ≤ fuel → wpAny P .any ro Q fuel listed a w := by
  have fin : ∀ (listed : Array Bool) (a : Act) (w : World) (b : Act) (rem : List Nat) (E : Env), LInv P ro vo Q n I Es listed a w b rem E → Region.ready .any ro listed = [] → Q .normal a w := by
    intro listed a w b rem E h hr
    have hall := all_listed R.tidyR h.size hr
    have hfree : ∀ i ∈ rem, freeB vo i = true := fun i hi => by
      cases hf : freeB vo i with
      | true => rfl
      | false =>
        have := (h.non i (h.lt i hi) hf).1 hi
        rw [hall i (h.lt i hi)] at this; cases this
    have hend : ∃ E', PlanL P vo Q n I [] E' ∧ Sat E' b w := by
      rcases hrem : rem with _ | ⟨u0, r0⟩
      · have := h.plan; rw [hrem] at this; exact ⟨E, this, h.sat⟩
      · have hL' := hL ⟨u0, hfree u0 (by rw [hrem]; exact List.mem_cons_self)⟩
        obtain ⟨E', h1, h2⟩ := PlanL.passAll R.tidyV R.free hL' h.inv h.shv h.virt (l1 := rem) (m := []) (l2 := []) (by simp) (fun x hx => bar_free (hfree x (by simpa using hx))) (by simpa using h.sorted) (by simpa using h.plan) h.sat
        have hn : rem.filter (fun x => !freeB vo x) = [] := List.filter_eq_nil_iff.2 fun x hx => by simp [hfree x hx]
        rw [hn] at h1
        exact ⟨E', h1, h2⟩
    obtain ⟨E', h1, h2⟩ := hend
    refine h1 a w h.inv h.sh fun t f hf => ?_
    have hst : a.slot t = b.slot t := by
      by_cases ht : ∃ u d v, gv vo u = some (d, v) ∧ d = t
      · obtain ⟨u, d, v, hg, rfl⟩ := ht
        have hlt : u < ro.size := by
          obtain ⟨o, ho, _⟩ := gv_spec hg
          rw [← R.size]; exact (Array.getElem?_eq_some_iff.1 ho).1
        rw [h.real u d v hg (hall u hlt), h.virt u d v hg]
      · exact h.agree t fun u d v hg hd => ht ⟨u, d, v, hg, hd⟩
    rw [hst]; exact h2 t f hf
  intro fuel
  induction fuel with
  | zero =>
    intro listed a w b rem E h hk
    have hr : Region.ready .any ro listed = [] := by
      cases hr : Region.ready .any ro listed with
      | nil => rfl
      | cons i r =>
        exfalso
        have hi : i ∈ Region.ready .any ro listed := by rw [hr]; exact List.mem_cons_self
        obtain ⟨hun, o, ho, _⟩ := mem_ready.1 hi
        have hilt : i < ro.size := (Array.getElem?_eq_some_iff.1 ho).1
        have hil : i < listed.size := by rw [h.size]; exact hilt
        have hun' : listed.getD i false = false := by simpa [Array.getD, hil] using hun
        have hm : i ∈ (List.range ro.size).filter fun j => !listed.getD j false := by
          rw [List.mem_filter]; exact ⟨List.mem_range.2 hilt, by simp only [hun']; rfl⟩
        have := List.length_pos_of_mem hm
        omega
    exact ⟨hr, fin listed a w b rem E h hr⟩
  | succ fuel ih =>
    intro listed a w b rem E h hk
    refine ⟨fin listed a w b rem E h, fun i hi => ?_⟩
    obtain ⟨hun, o, ho, _⟩ := mem_ready.1 hi
    have hilt : i < ro.size := (Array.getElem?_eq_some_iff.1 ho).1
    have hil : i < listed.size := by rw [h.size]; exact hilt
    have hun' : listed.getD i false = false := by simpa [Array.getD, hil] using hun
    by_cases hf : freeB vo i = true
    · obtain ⟨⟨d, v⟩, hg⟩ := Option.isSome_iff_exists.1 (show (gv vo i).isSome = true from hf)
      have hdi : dst vo i = some d := by obtain ⟨o, ho, h1, _⟩ := gv_spec hg; simp [dst, ho, h1]
      have hdn := R.free.lt i d v hg
      refine wpOp_mono ?_ (hob i d v hg a w h.inv h.sh (h.es ⟨i, hf⟩) fun u' d' v' hg' hbit => h.real u' d' v' hg' (ready_before R.tidyR h.closed hi hbit))
      rintro a' w' ⟨rfl, hb⟩
      refine ih _ _ _ b rem E ⟨by simp [h.size], closed_next h.closed hi, hI _ _ h.inv hb, h.sh.put _ _, h.shv, h.plan, fun t f hf => Fa.mono f w w' _ hb (h.sat t f hf), h.sorted, h.lt, ?_, ?_, h.virt, ?_, ?_, fun hno => by rw [hno i] at hf; cases hf⟩ (count_next hil hilt hun' hk)
      · intro j hj hfj
        have hne : i ≠ j := fun e => by rw [e] at hf; rw [hf] at hfj; cases hfj
        rw [getD_set_ne false hne]; exact h.non j hj hfj
      · intro t htt
        rw [slot_put_ne a (htt i d v hg)]; exact h.agree t htt
      · intro u d' v' hg' hlu
        by_cases hui : u = i
        · subst hui; rw [hg] at hg'; cases hg'; exact slot_put_same h.sh hdn v
        · rw [getD_set_ne false (Ne.symm hui)] at hlu
          rw [slot_put_ne a (fun e => R.free.one u d' v' hg' i (Ne.symm hui) (by rw [hdi, e]))]
          exact h.real u d' v' hg' hlu
      · intro hany t f hft
        obtain ⟨hst, hno⟩ := hes t f hft
        rw [slot_put_ne a (fun e => hno i (by rw [← R.dst, hdi, e]))]
        exact hst w w' _ (h.es hany t f hft)
    · have hf' : freeB vo i = false := by simpa using hf
      have him := (h.non i hilt hf').2 hun'
      obtain ⟨l1, l2, rfl⟩ := List.append_of_mem him
      have hlt1 : ∀ x ∈ l1, x < i := fun x hx => (List.pairwise_append.1 h.sorted).2.2 x hx i List.mem_cons_self
      have hxlt : ∀ x ∈ l1, x < ro.size := fun x hx => h.lt x (by simp [hx])
      have hord : ∀ x ∈ l1, freeB vo x = false → ordB vo x i = false := fun x hx hfx => by
        cases ho : ordB vo x i with
        | false => rfl
        | true =>
          exfalso
          have hlt := hlt1 x hx
          unfold ordB at ho
          rw [Nat.max_eq_right (by omega), Nat.min_eq_left (by omega), R.before] at ho
          have h1 := ready_before R.tidyR h.closed hi ho
          have h2 := (h.non x (hxlt x hx) hfx).1 (by simp [hx])
          rw [h1] at h2; cases h2
      have hbar : ∀ x ∈ l1, barB vo x = false := fun x hx => by
        cases hb : barB vo x with
        | false => rfl
        | true =>
          exfalso
          have hfx : freeB vo x = false := by
            cases hfx : freeB vo x with
            | false => rfl
            | true => rw [bar_free hfx] at hb; cases hb
          have := bar_ord hb (by rw [R.size]; exact hilt) (by have := hlt1 x hx; omega) hf'
          rw [hord x hx hfx] at this; cases this
      have hpass : ∃ E', PlanL P vo Q n I (l1.filter (fun x => !freeB vo x) ++ i :: l2) E' ∧ Sat E' b w := by
        by_cases hany : ∃ u, freeB vo u = true
        · obtain ⟨E', h1, h2⟩ := PlanL.passAll R.tidyV R.free (hL hany) h.inv h.shv h.virt (l1 := l1) (m := []) (l2 := i :: l2) (by simp) (fun x hx => hbar x (by simpa using hx)) (by simpa using (List.pairwise_append.1 h.sorted).1) (by simpa using h.plan) h.sat
          exact ⟨E', by simpa using h1, h2⟩
        · have hn : l1.filter (fun x => !freeB vo x) = l1 := List.filter_eq_self.2 fun x hx => by
            cases hfx : freeB vo x with
            | false => rfl
            | true => exact absurd ⟨x, hfx⟩ hany
          rw [hn]; exact ⟨E, h.plan, h.sat⟩
      obtain ⟨E', hp1, hs1⟩ := hpass
      have hfm : ∀ x ∈ l1.filter (fun x => !freeB vo x), x ∈ l1 ∧ freeB vo x = false := fun x hx => by
        have := List.mem_filter.1 hx
        exact ⟨this.1, by simpa using this.2⟩
      have hpl : PlanL P vo Q n I (i :: (l1.filter (fun x => !freeB vo x) ++ l2)) E' := by
        cases hbi : barB vo i with
        | false =>
          refine PlanL.bring R.tidyV hbi (fun x hx => ?_) hp1
          obtain ⟨hx1, hx2⟩ := hfm x hx
          have := hlt1 x hx1
          exact ⟨apt_of R.tidyV (by rw [R.size]; exact hxlt x hx1) (by rw [R.size]; exact hilt) (by omega) (hord x hx1 hx2), hbar x hx1⟩
        | true =>
          have hn : l1.filter (fun x => !freeB vo x) = [] := by
            cases hl : l1.filter (fun x => !freeB vo x) with
            | nil => rfl
            | cons x r =>
              exfalso
              obtain ⟨hx1, hx2⟩ := hfm x (by rw [hl]; exact List.mem_cons_self)
              have := hlt1 x hx1
              have h3 := bar_ord hbi (by rw [R.size]; exact hxlt x hx1) (by omega) hx2
              rw [ordB_comm, hord x hx1 hx2] at h3; cases h3
          rw [hn] at hp1 ⊢; exact hp1
      have hslot : ∀ t, t ∈ looks vo i ∨ n ≤ t → a.slot t = b.slot t := fun t htt => by
        by_cases hu : ∃ u d v, gv vo u = some (d, v) ∧ d = t
        · obtain ⟨u, d, v, hg, rfl⟩ := hu
          rcases htt with htt | htt
          · have hbit := R.free.seen u d v hg i htt
            rw [R.before] at hbit
            rw [h.real u d v hg (ready_before R.tidyR h.closed hi hbit), h.virt u d v hg]
          · have := R.free.lt u d v hg; omega
        · exact h.agree t fun u d v hg hd => hu ⟨u, d, v, hg, hd⟩
      have hsame := R.same i hf'
      have hnot : ∀ u d v, gv vo u = some (d, v) → dst vo i ≠ some d := fun u d v hg => R.free.one u d v hg i (fun e => by rw [e, free_of hg] at hf'; cases hf')
      have hsub : (l1.filter (fun x => !freeB vo x) ++ l2).Sublist (l1 ++ i :: l2) := List.Sublist.append List.filter_sublist (List.sublist_cons_self _ _)
      have hni : i ∉ l1.filter (fun x => !freeB vo x) ++ l2 := fun hm => by
        rcases List.mem_append.1 hm with hm | hm
        · have := hlt1 i (hfm i hm).1; omega
        · have := (List.pairwise_cons.1 (List.pairwise_append.1 h.sorted).2.1).1 i hm; omega
      have hnon : ∀ j, j < ro.size → freeB vo j = false → (j ∈ l1.filter (fun x => !freeB vo x) ++ l2 ↔ (listed.setIfInBounds i true).getD j false = false) := fun j hj hfj => by
        by_cases hji : j = i
        · subst hji; simp only [getD_set_same hil]; exact ⟨fun hm => absurd hm hni, fun e => by cases e⟩
        · rw [getD_set_ne false (Ne.symm hji), ← h.non j hj hfj]
          simp [List.mem_append, List.mem_filter, hfj, hji]
      have step : ∀ (w' : World) (v : Value) (E2 : Env), PlanL P vo Q n I (l1.filter (fun x => !freeB vo x) ++ l2) E2 → I w' → Sat E2 (b.put (dst vo i) v) w' → LInv P ro vo Q n I Es (listed.setIfInBounds i true) (a.put (dst vo i) v) w' (b.put (dst vo i) v) (l1.filter (fun x => !freeB vo x) ++ l2) E2 := fun w' v E2 hp hIw hs => by
        refine ⟨by simp [h.size], closed_next h.closed hi, hIw, h.sh.put _ _, h.shv.put _ _, hp, hs, h.sorted.sublist hsub, fun j hj => h.lt j (hsub.mem hj), hnon, ?_, ?_, ?_, ?_, fun hno => by rw [h.eq hno]⟩
        · intro t htt
          cases hd : dst vo i with
          | none => exact h.agree t htt
          | some d =>
            by_cases hdt : d = t
            · subst hdt
              rw [slot_put_same h.sh (tidy_dst R.tidyV hd), slot_put_same h.shv (tidy_dst R.tidyV hd)]
            · rw [slot_put_ne a hdt, slot_put_ne b hdt]; exact h.agree t htt
        · intro u d v' hg
          have := hnot u d v' hg
          cases hd : dst vo i with
          | none => exact h.virt u d v' hg
          | some e => rw [slot_put_ne b (fun h' => this (by rw [hd, h']))]; exact h.virt u d v' hg
        · intro u d v' hg hlu
          have hui : i ≠ u := fun e => by rw [e, free_of hg] at hf'; cases hf'
          rw [getD_set_ne false hui] at hlu
          have := hnot u d v' hg
          cases hd : dst vo i with
          | none => exact h.real u d v' hg hlu
          | some e => rw [slot_put_ne a (fun h' => this (by rw [hd, h']))]; exact h.real u d v' hg hlu
        · intro hany t f hft
          obtain ⟨hst, hno⟩ := hes t f hft
          have hn2 := hno i
          rw [← R.dst] at hn2
          cases hd : dst vo i with
          | none => exact hst w w' _ (h.es hany t f hft)
          | some e => rw [slot_put_ne a (fun h' => hn2 (by rw [hd, h']))]; exact hst w w' _ (h.es hany t f hft)
      rcases hpl with ⟨F, hst, hp⟩ | ⟨hb, heff⟩
      · refine wpOp_same hsame R.dst (wpOp_mono ?_ (hst a w h.inv h.sh fun t htt f hf => by rw [hslot t htt]; exact hs1 t f hf))
        rintro a' w' ⟨v, rfl, hb, hF⟩
        exact ih _ _ _ _ _ _ (step w' v _ hp (hI _ _ h.inv hb) (hs1.step R.tidyV h.shv hb hF)) (count_next hil hilt hun' hk)
      · have h1 := heff b w h.inv h.shv hs1
        by_cases hany : ∃ u, freeB vo u = true
        · refine wpOp_same hsame R.dst (wpOp_mono ?_ (wpOp_frame R.tidyV (by rw [R.size]; exact hilt) h.sh h.shv (fun t htt => hslot t (.inl htt)) (hQ hany) h1))
          rintro a' w' (⟨v, rfl, E2, hp, hIw, _, hs2⟩ | ⟨b', hne, E2, _, _, hsh, _⟩)
          · exact ih _ _ _ _ _ _ (step w' v _ hp hIw hs2) (count_next hil hilt hun' hk)
          · exact absurd hsh.defers hne
        · have hno : ∀ u, freeB vo u = false := fun u => by
            cases hfu : freeB vo u with
            | false => rfl
            | true => exact absurd ⟨u, hfu⟩ hany
          have hab := h.eq hno
          rw [hab]
          refine wpOp_same hsame R.dst (wpOp_mono ?_ h1)
          rintro a' w' ⟨E2, hp, hIw, hsh2, hs2⟩
          have hg0 : ∀ u d v, ¬ gv vo u = some (d, v) := fun u d v hg => by have := free_of hg; rw [hno u] at this; cases this
          exact ih _ a' w' a' _ E2 ⟨by simp [h.size], closed_next h.closed hi, hIw, hsh2, hsh2, hp, hs2, h.sorted.sublist hsub, fun j hj => h.lt j (hsub.mem hj), hnon, fun _ _ => rfl, fun u d v hg => absurd hg (hg0 u d v), fun u d v hg => absurd hg (hg0 u d v), fun ha => absurd ha hany, fun _ => rfl⟩ (count_next hil hilt hun' hk)
theorem plan_text {ops : Array Oper} (ht : tidy ops n = true) (hI : ∀ w w', I w → Below w.heap.size w w' → I w') : ∀ (k i : Nat) (E : Env) (a : Act) (w : World), Plan P ops Q n I false k i E → i + k = ops.size → I w → Sh n a → Sat E a w →
    wpOps P ops Q (List.range' i k) a w := by
  intro k
  induction k with
  | zero => intro i E a w h _ hIw hsh hs; exact h a w hIw hsh hs
  | succ k ih =>
    intro i E a w h hi hIw hsh hs
    rw [List.range'_succ, wpOps_cons]
    rcases h with ⟨F, hst, hp⟩ | ⟨_, heff⟩
    · refine wpOp_mono ?_ (hst a w hIw hsh (fun t _ f hf => hs t f hf))
      rintro a' w' ⟨v, rfl, hb, hF⟩
      exact ih (i + 1) _ _ _ hp (by omega) (hI _ _ hIw hb) (hsh.put _ _) (hs.step ht hsh hb hF)
    · refine wpOp_mono ?_ (heff a w hIw hsh hs)
      rintro a' w' ⟨E', hp, h1, h2, h3⟩
      exact ih (i + 1) _ _ _ hp (by omega) h1 h2 h3
def tidyG (ops : Array Oper) (n : Nat) : Bool := tidy ops n && ops.all fun o => o.pos != "given"
theorem no_free {ops : Array Oper} (h : (ops.all fun o => o.pos != "given") = true) (u : Nat) : freeB ops u = false := by
  cases hf : freeB ops u with
  | false => rfl
  | true =>
    exfalso
    obtain ⟨⟨d, v⟩, hg⟩ := Option.isSome_iff_exists.1 (show (gv ops u).isSome = true from hf)
    unfold gv at hg
    cases ho : ops[u]? with
    | none => rw [ho] at hg; cases hg
    | some o =>
      rw [ho] at hg
      have h1 := Array.all_eq_true_iff_forall_mem.1 h o (Array.mem_of_getElem? ho)
      have hg' : given o = some (d, v) := hg
      unfold given at hg'
      split at hg'
      · split at hg'
        · rename_i hp
          rw [bne_iff_ne] at h1
          exact h1 (by simpa using hp)
        · cases hg'
      · cases hg'
theorem start_facts {m : Nat} : ∀ j, (Array.replicate m false).getD j false = false := fun j => by simp [Array.getD]
theorem start_closed {ops : Array Oper} : closed ops (fun j => (Array.replicate ops.size false).getD j false = true) := fun j o _ hL => by
  have h2 : (Array.replicate ops.size false).getD j false = true := hL
  rw [start_facts] at h2
  cases h2
theorem start_count {m : Nat} : ((List.range m).filter fun j => !(Array.replicate m false).getD j false).length ≤ m := by
  have := List.length_filter_le (fun j => !(Array.replicate m false).getD j false) (List.range m)
  simpa using this
theorem wp_region_plan {ops : Array Oper} {id : Nat} {draw : Bool} {E : Env} {a : Act} {w : World} (hm : P.follows .mixedOrders = true) (htg : tidyG ops n = true) (hI : ∀ w w', I w → Below w.heap.size w w' → I w')
    (hw : I w) (ha : Sh n a) (hE : Sat E a w) (h : Plan P ops Q n I draw ops.size 0 E) : (Code.region id ops draw).wp P Q a w := by
  simp only [tidyG, Bool.and_eq_true] at htg
  obtain ⟨ht, hng⟩ := htg
  cases draw with
  | true =>
    have hno := no_free hng
    have hg0 : ∀ u d v, ¬ gv ops u = some (d, v) := fun u d v hg => by have := free_of hg; rw [hno u] at this; cases this
    have hany : ¬ ∃ u, freeB ops u = true := fun ⟨u, hu⟩ => by rw [hno u] at hu; cases hu
    refine wp_region_any hm ?_
    have hb0 : Below w.heap.size w { w with drawn := w.drawn + 1 } := (Below.refl _ _).drew
    refine loose_run (vo := ops) (Es := []) ⟨rfl, fun _ _ => rfl, fun _ => rfl, rfl, ht, ht, ⟨fun u d v hg => absurd hg (hg0 u d v), fun u d v hg => absurd hg (hg0 u d v), fun u d v hg => absurd hg (hg0 u d v)⟩⟩
      (fun ha => absurd ha hany) (fun ha => absurd ha hany) hI (fun t f hf => by simp [look] at hf) (fun u d v hg => absurd hg (hg0 u d v)) ops.size _ a _ a (List.range' 0 ops.size) E
      ⟨by simp, start_closed, hI _ _ hw hb0, ha, ha, planL_of _ _ _ h, fun t f hf => Fa.mono f w _ _ hb0 (hE t f hf), List.pairwise_lt_range', fun i hi => by simp [List.mem_range'] at hi; omega, fun i hi _ => ?_,
        fun _ _ => rfl, fun u d v hg => absurd hg (hg0 u d v), fun u d v hg => absurd hg (hg0 u d v), fun h => absurd h hany, fun _ => rfl⟩ start_count
    rw [start_facts]
    simp [List.mem_range']; exact hi
  | false =>
    refine wp_region ?_
    rw [List.range_eq_range']
    exact plan_text ht hI ops.size 0 E a w h (by omega) hw ha hE
end
end Go.Free
end

section
namespace Go.Free.Sorts
structure Ord (R : Nat → Nat → Prop) : Prop where
  trans : ∀ {x y z}, R x y → R y z → R x z
  irr : ∀ x, ¬ R x x
  tot : ∀ {x y}, x ≠ y → R x y ∨ R y x
variable {R : Nat → Nat → Prop} {a m b : Nat} {f g h : Nat → Nat}
theorem Ord.not {x y : Nat} (o : Ord R) (hne : x ≠ y) (h : ¬ R x y) : R y x := (o.tot hne).resolve_left h
def SortedF (R : Nat → Nat → Prop) (a b : Nat) (f : Nat → Nat) : Prop := ∀ i j, a ≤ i → i < j → j < b → R (f i) (f j)
structure Mix (a b : Nat) (f g : Nat → Nat) : Prop where
  out : ∀ i, i < a ∨ b ≤ i → g i = f i
  fro : ∀ i, a ≤ i → i < b → ∃ k, a ≤ k ∧ k < b ∧ g i = f k
  to : ∀ i, a ≤ i → i < b → ∃ k, a ≤ k ∧ k < b ∧ f i = g k
theorem Mix.refl (a b : Nat) (f : Nat → Nat) : Mix a b f f := ⟨fun _ _ => rfl, fun i h1 h2 => ⟨i, h1, h2, rfl⟩, fun i h1 h2 => ⟨i, h1, h2, rfl⟩⟩
theorem Mix.trans (h1 : Mix a b f g) (h2 : Mix a b g h) : Mix a b f h :=
  ⟨fun i hi => (h2.out i hi).trans (h1.out i hi),
   fun i p q => by obtain ⟨k, p1, q1, e⟩ := h2.fro i p q; obtain ⟨k2, p2, q2, e2⟩ := h1.fro k p1 q1; exact ⟨k2, p2, q2, e.trans e2⟩,
   fun i p q => by obtain ⟨k, p1, q1, e⟩ := h1.to i p q; obtain ⟨k2, p2, q2, e2⟩ := h2.to k p1 q1; exact ⟨k2, p2, q2, e.trans e2⟩⟩
theorem Mix.wide {a' b' : Nat} (h1 : Mix a b f g) (ha : a' ≤ a) (hb : b ≤ b') : Mix a' b' f g :=
  ⟨fun i hi => h1.out i (by omega),
   fun i p q => by
    by_cases hi : a ≤ i ∧ i < b
    · obtain ⟨k, p1, q1, e⟩ := h1.fro i hi.1 hi.2; exact ⟨k, by omega, by omega, e⟩
    · exact ⟨i, p, q, h1.out i (by omega)⟩,
   fun i p q => by
    by_cases hi : a ≤ i ∧ i < b
    · obtain ⟨k, p1, q1, e⟩ := h1.to i hi.1 hi.2; exact ⟨k, by omega, by omega, e⟩
    · exact ⟨i, p, q, (h1.out i (by omega)).symm⟩⟩
def swapF (f : Nat → Nat) (i j : Nat) : Nat → Nat := fun k => if k = i then f j else if k = j then f i else f k
theorem Mix.swap {i j : Nat} (h1 : a ≤ i) (h2 : i < b) (h3 : a ≤ j) (h4 : j < b) : Mix a b f (swapF f i j) := by
  refine ⟨fun k hk => ?_, fun k p q => ?_, fun k p q => ?_⟩
  · unfold swapF; rw [if_neg (by omega), if_neg (by omega)]
  · unfold swapF
    by_cases e1 : k = i
    · exact ⟨j, h3, h4, by rw [if_pos e1]⟩
    · by_cases e2 : k = j
      · exact ⟨i, h1, h2, by rw [if_neg e1, if_pos e2]⟩
      · exact ⟨k, p, q, by rw [if_neg e1, if_neg e2]⟩
  · by_cases e1 : k = i
    · refine ⟨j, h3, h4, ?_⟩
      unfold swapF
      by_cases e : j = i
      · rw [if_pos e, e1, e]
      · rw [if_neg e, if_pos rfl, e1]
    · by_cases e2 : k = j
      · exact ⟨i, h1, h2, by unfold swapF; rw [if_pos rfl, e2]⟩
      · exact ⟨k, p, q, by unfold swapF; rw [if_neg e1, if_neg e2]⟩
def rotF (f : Nat → Nat) (a m b : Nat) : Nat → Nat := fun k => if a ≤ k ∧ k < a + (b - m) then f (k + (m - a)) else if a + (b - m) ≤ k ∧ k < b then f (k - (b - m)) else f k
theorem rot_mix (h1 : a ≤ m) (h2 : m ≤ b) : Mix a b f (rotF f a m b) := by
  refine ⟨fun k hk => ?_, fun k p q => ?_, fun k p q => ?_⟩
  · unfold rotF; rw [if_neg (by omega), if_neg (by omega)]
  · unfold rotF
    by_cases e1 : k < a + (b - m)
    · exact ⟨k + (m - a), by omega, by omega, by rw [if_pos ⟨p, e1⟩]⟩
    · exact ⟨k - (b - m), by omega, by omega, by rw [if_neg (by omega), if_pos (by omega)]⟩
  · by_cases e1 : k < m
    · refine ⟨k + (b - m), by omega, by omega, ?_⟩
      unfold rotF; rw [if_neg (by omega), if_pos (by omega), Nat.add_sub_cancel]
    · refine ⟨k - (m - a), by omega, by omega, ?_⟩
      unfold rotF; rw [if_pos (by omega)]; congr 1; omega
def swpR (f : Nat → Nat) (a b n : Nat) : Nat → Nat := fun k => if a ≤ k ∧ k < a + n then f (b + (k - a)) else if b ≤ k ∧ k < b + n then f (a + (k - b)) else f k
theorem swpR_zero (f : Nat → Nat) (a b : Nat) : swpR f a b 0 = f := by
  funext k; unfold swpR
  (repeat' split) <;> first | rfl | (exfalso; omega) | (congr 1; omega)
theorem swpR_succ (f : Nat → Nat) {a b n : Nat} (h : a + n < b) : swapF (swpR f a b n) (a + n) (b + n) = swpR f a b (n + 1) := by
  funext k
  unfold swapF swpR
  (repeat' split) <;> first | rfl | (exfalso; omega) | (congr 1; omega)
theorem rot_left {i j : Nat} (hij : j < i) (hi : i ≤ m) : rotF (swpR f (m - i) m j) (m - i + j) m (m + j) = rotF f (m - i) m (m + j) := by
  funext k
  unfold rotF swpR
  (repeat' split) <;> first | rfl | (exfalso; omega) | (congr 1; omega)
theorem rot_right {i j : Nat} (hij : i < j) (hi : i ≤ m) : rotF (swpR f (m - i) (m + j - i) i) (m - i) m (m + j - i) = rotF f (m - i) m (m + j) := by
  funext k
  unfold rotF swpR
  (repeat' split) <;> first | rfl | (exfalso; omega) | (congr 1; omega)
theorem rot_same {i : Nat} (hi : i ≤ m) : swpR f (m - i) m i = rotF f (m - i) m (m + i) := by
  funext k
  unfold rotF swpR
  (repeat' split) <;> first | rfl | (exfalso; omega) | (congr 1; omega)
/-! ### One number laid among sorted ones -/
def shiftF (f : Nat → Nat) (a c : Nat) : Nat → Nat := fun k => if a ≤ k ∧ k < c then f (k + 1) else if k = c then f a else f k
def unshF (f : Nat → Nat) (c m : Nat) : Nat → Nat := fun k => if k = c then f m else if c < k ∧ k ≤ m then f (k - 1) else f k
theorem shift_zero (f : Nat → Nat) (a : Nat) : shiftF f a a = f := by
  funext k; unfold shiftF
  (repeat' split) <;> first | rfl | (exfalso; omega) | (congr 1; omega)
theorem shift_succ (f : Nat → Nat) {a c : Nat} (h : a ≤ c) : swapF (shiftF f a c) c (c + 1) = shiftF f a (c + 1) := by
  funext k; unfold swapF shiftF
  (repeat' split) <;> first | rfl | (exfalso; omega) | (congr 1; omega)
theorem shift_mix {c : Nat} (h1 : a ≤ c) (h2 : c < b) : Mix a b f (shiftF f a c) := by
  refine ⟨fun k hk => ?_, fun k p q => ?_, fun k p q => ?_⟩
  · unfold shiftF; rw [if_neg (by omega), if_neg (by omega)]
  · unfold shiftF
    by_cases e1 : k < c
    · exact ⟨k + 1, by omega, by omega, by rw [if_pos ⟨p, e1⟩]⟩
    · by_cases e2 : k = c
      · exact ⟨a, Nat.le_refl _, by omega, by rw [if_neg (by omega), if_pos e2]⟩
      · exact ⟨k, p, q, by rw [if_neg (by omega), if_neg e2]⟩
  · by_cases e1 : k = a
    · exact ⟨c, h1, h2, by unfold shiftF; rw [if_neg (by omega), if_pos rfl, e1]⟩
    · by_cases e2 : k ≤ c
      · refine ⟨k - 1, by omega, by omega, ?_⟩
        unfold shiftF; rw [if_pos (by omega)]; congr 1; omega
      · exact ⟨k, p, q, by unfold shiftF; rw [if_neg (by omega), if_neg (by omega)]⟩
theorem unsh_zero (f : Nat → Nat) (m : Nat) : unshF f m m = f := by
  funext k; unfold unshF
  (repeat' split) <;> first | rfl | (exfalso; omega) | (congr 1; omega)
theorem unsh_succ (f : Nat → Nat) {c m : Nat} (h : c < m) : swapF (unshF f (c + 1) m) (c + 1) c = unshF f c m := by
  funext k; unfold swapF unshF
  (repeat' split) <;> first | rfl | (exfalso; omega) | (congr 1; omega)
theorem unsh_mix {c : Nat} (h1 : a ≤ c) (h2 : c ≤ m) (h3 : m < b) : Mix a b f (unshF f c m) := by
  refine ⟨fun k hk => ?_, fun k p q => ?_, fun k p q => ?_⟩
  · unfold unshF; rw [if_neg (by omega), if_neg (by omega)]
  · unfold unshF
    by_cases e1 : k = c
    · exact ⟨m, by omega, h3, by rw [if_pos e1]⟩
    · by_cases e2 : c < k ∧ k ≤ m
      · exact ⟨k - 1, by omega, by omega, by rw [if_neg e1, if_pos e2]⟩
      · exact ⟨k, p, q, by rw [if_neg e1, if_neg e2]⟩
  · by_cases e1 : k = m
    · exact ⟨c, h1, by omega, by unfold unshF; rw [if_pos rfl, e1]⟩
    · by_cases e2 : c ≤ k ∧ k < m
      · exact ⟨k + 1, by omega, by omega, by unfold unshF; rw [if_neg (by omega), if_pos (by omega), Nat.add_sub_cancel]⟩
      · exact ⟨k, p, q, by unfold unshF; rw [if_neg (by omega), if_neg (by omega)]⟩
theorem unsh_sorted {c : Nat} (hs : SortedF R a m f) (h2 : c ≤ m) (hl : ∀ k, a ≤ k → k < c → R (f k) (f m)) (hr : ∀ k, c ≤ k → k < m → R (f m) (f k)) (hac : a ≤ c) : SortedF R a (m + 1) (unshF f c m) := by
  intro i j p q r
  unfold unshF
  by_cases e1 : i = c
  · subst e1
    rw [if_pos rfl, if_neg (by omega), if_pos (by omega)]
    exact hr (j - 1) (by omega) (by omega)
  rw [if_neg e1]
  by_cases e2 : c < i ∧ i ≤ m
  · rw [if_pos e2, if_neg (by omega), if_pos (by omega)]
    exact hs (i - 1) (j - 1) (by omega) (by omega) (by omega)
  rw [if_neg e2]
  by_cases e3 : j = c
  · rw [if_pos e3]; exact hl i p (by omega)
  rw [if_neg e3]
  by_cases e4 : c < j ∧ j ≤ m
  · rw [if_pos e4]
    by_cases e5 : i = j - 1
    · omega
    · exact hs i (j - 1) p (by omega) (by omega)
  · rw [if_neg e4]; exact hs i j p q (by omega)
theorem shift_sorted {c : Nat} (hs : SortedF R (a + 1) b f) (h2 : c < b) (hl : ∀ k, a < k → k ≤ c → R (f k) (f a)) (hr : ∀ k, c < k → k < b → R (f a) (f k)) (hac : a ≤ c) : SortedF R a b (shiftF f a c) := by
  intro i j p q r
  unfold shiftF
  by_cases e1 : i < c
  · rw [if_pos ⟨p, e1⟩]
    by_cases e2 : j < c
    · rw [if_pos (by omega)]; exact hs (i + 1) (j + 1) (by omega) (by omega) (by omega)
    · rw [if_neg (by omega)]
      by_cases e3 : j = c
      · rw [if_pos e3]; exact hl (i + 1) (by omega) (by omega)
      · rw [if_neg e3]; exact hs (i + 1) j (by omega) (by omega) r
  · rw [if_neg (by omega), if_neg (show ¬ (a ≤ j ∧ j < c) by omega), if_neg (show ¬ j = c by omega)]
    by_cases e3 : i = c
    · rw [if_pos e3]; exact hr j (by omega) r
    · rw [if_neg e3]; exact hs i j (by omega) q r
/-! ### Merging -/
def Apart2 (a m b : Nat) (f : Nat → Nat) : Prop := ∀ i j, a ≤ i → i < m → m ≤ j → j < b → f i < f j
theorem sorted_le (o : Ord R) (hs : SortedF R a b f) {i j x : Nat} (h1 : a ≤ i) (h2 : i ≤ j) (h3 : j < b) (hr : R (f j) x) : R (f i) x := by
  rcases Nat.lt_or_ge i j with h | h
  · exact o.trans (hs i j h1 h h3) hr
  · have : i = j := by omega
    rw [this]; exact hr
theorem sorted_ge (o : Ord R) (hs : SortedF R a b f) {i j x : Nat} (h1 : a ≤ i) (h2 : i ≤ j) (h3 : j < b) (hr : R x (f i)) : R x (f j) := by
  rcases Nat.lt_or_ge i j with h | h
  · exact o.trans hr (hs i j h1 h h3)
  · have : i = j := by omega
    rw [← this]; exact hr
structure SplitM (R : Nat → Nat → Prop) (a s m e b mid : Nat) (g : Nat → Nat) : Prop where
  s1 : SortedF R a s g
  s2 : SortedF R s mid g
  s3 : SortedF R mid e g
  s4 : SortedF R e b g
  a1 : Apart2 a s mid g
  a2 : Apart2 mid e b g
  cross : ∀ i j, a ≤ i → i < mid → mid ≤ j → j < b → R (g i) (g j)
theorem merge_split (o : Ord R) {s e mid lo hi : Nat} (hs1 : SortedF R a m f) (hs2 : SortedF R m b f) (hap : Apart2 a m b f) (hm1 : a < m) (hm2 : m < b) (hmid : 2 * mid ≤ a + b ∧ a + b ≤ 2 * mid + 1)
    (hlo : (mid < m ∧ lo + b = mid + m ∧ hi = mid) ∨ (m ≤ mid ∧ lo = a ∧ hi = m)) (ha : a ≤ lo) (h1 : lo ≤ s) (h2 : s ≤ hi) (he : e + s = mid + m)
    (hn : ∀ c, lo ≤ c → c < s → ¬ R (f (mid + m - 1 - c)) (f c)) (hp : ∀ c, s ≤ c → c < hi → R (f (mid + m - 1 - c)) (f c)) : SplitM R a s m e b mid (rotF f s m e) := by
  have g1 : ∀ k, a ≤ k → k < s → rotF f s m e k = f k := fun k p q => by unfold rotF; rw [if_neg (by omega), if_neg (by omega)]
  have g2 : ∀ k, s ≤ k → k < mid → rotF f s m e k = f (k + (m - s)) := fun k p q => by unfold rotF; rw [if_pos (by omega)]
  have g3 : ∀ k, mid ≤ k → k < e → rotF f s m e k = f (k - (e - m)) := fun k p q => by unfold rotF; rw [if_neg (by omega), if_pos (by omega)]
  have g4 : ∀ k, e ≤ k → k < b → rotF f s m e k = f k := fun k p q => by unfold rotF; rw [if_neg (by omega), if_neg (by omega)]
  refine ⟨fun i j p q r => ?_, fun i j p q r => ?_, fun i j p q r => ?_, fun i j p q r => ?_, fun i j p q r t => ?_, fun i j p q r t => ?_, fun i j p q r t => ?_⟩
  · rw [g1 i p (by omega), g1 j (by omega) r]; exact hs1 i j p q (by omega)
  · rw [g2 i p (by omega), g2 j (by omega) r]; exact hs2 _ _ (by omega) (by omega) (by omega)
  · rw [g3 i p (by omega), g3 j (by omega) r]; exact hs1 _ _ (by omega) (by omega) (by omega)
  · rw [g4 i p (by omega), g4 j (by omega) r]; exact hs2 i j (by omega) q r
  · rw [g1 i p q, g2 j r t]; exact hap _ _ p (by omega) (by omega) (by omega)
  · rw [g3 i p q, g4 j r t]; exact hap _ _ (by omega) (by omega) (by omega) t
  · by_cases c1 : i < s
    · rw [g1 i p c1]
      by_cases c2 : j < e
      · rw [g3 j r c2]; exact hs1 _ _ p (by omega) (by omega)
      · rw [g4 j (by omega) t]
        have hc := hn (s - 1) (by omega) (by omega)
        have hx : mid + m - 1 - (s - 1) = e := by omega
        rw [hx] at hc
        have hlt := hap (s - 1) e (by omega) (by omega) (by omega) (by omega)
        have hr := o.not (by omega) hc
        exact sorted_le o hs1 p (by omega) (by omega) (sorted_ge o hs2 (by omega) (by omega) t hr)
    · rw [g2 i (by omega) q]
      by_cases c2 : j < e
      · rw [g3 j r c2]
        have hc := hp s (Nat.le_refl _) (by omega)
        have hx : mid + m - 1 - s = e - 1 := by omega
        rw [hx] at hc
        exact sorted_le o hs2 (j := e - 1) (by omega) (by omega) (by omega) (sorted_ge o hs1 (i := s) (by omega) (by omega) (by omega) hc)
      · rw [g4 j (by omega) t]; exact hs2 _ _ (by omega) (by omega) t
theorem merge_join {mid : Nat} (h1 : SortedF R a mid f) (h2 : SortedF R mid b f) (hc : ∀ i j, a ≤ i → i < mid → mid ≤ j → j < b → R (f i) (f j)) : SortedF R a b f := fun i j p q r => by
  by_cases c1 : j < mid
  · exact h1 i j p q c1
  · by_cases c2 : i < mid
    · exact hc i j p c2 (by omega) r
    · exact h2 i j (by omega) q r
theorem cross_left {mid : Nat} (hm : Mix a mid f g) (hc : ∀ i j, a ≤ i → i < mid → mid ≤ j → j < b → R (f i) (f j)) : ∀ i j, a ≤ i → i < mid → mid ≤ j → j < b → R (g i) (g j) := fun i j p q r t => by
  obtain ⟨k, k1, k2, e⟩ := hm.fro i p q
  rw [e, hm.out j (by omega)]
  exact hc k j k1 k2 r t
theorem cross_right {mid : Nat} (hm : Mix mid b f g) (hc : ∀ i j, a ≤ i → i < mid → mid ≤ j → j < b → R (f i) (f j)) : ∀ i j, a ≤ i → i < mid → mid ≤ j → j < b → R (g i) (g j) := fun i j p q r t => by
  obtain ⟨k, k1, k2, e⟩ := hm.fro j r t
  rw [e, hm.out i (by omega)]
  exact hc i k p q k1 k2
theorem sorted_out {lo hi : Nat} (hm : Mix lo hi f g) (h : SortedF R a b f) (hd : b ≤ lo ∨ hi ≤ a) : SortedF R a b g := fun i j p q r => by
  rw [hm.out i (by omega), hm.out j (by omega)]; exact h i j p q r
theorem apart_out {lo hi : Nat} (hm : Mix lo hi f g) (h : Apart2 a m b f) (hd : b ≤ lo ∨ hi ≤ a) : Apart2 a m b g := fun i j p q r t => by
  rw [hm.out i (by omega), hm.out j (by omega)]; exact h i j p q r t
end Go.Free.Sorts
end

section
namespace Go.Free.Sorts
def intsF (f : Nat → Nat) (n : Nat) : List Value := (List.range n).map fun k => .int .i64 (f k)
theorem ints_len (f : Nat → Nat) (n : Nat) : (intsF f n).length = n := by simp [intsF]
theorem ints_get {f : Nat → Nat} {n i : Nat} (h : i < n) : (intsF f n)[i]? = some (.int .i64 (f i)) := by simp [intsF, h]
theorem ints_set {f : Nat → Nat} {n i v : Nat} (h : i < n) : (intsF f n).set i (.int .i64 v) = intsF (fun k => if k = i then v else f k) n := by
  apply List.ext_getElem?
  intro j
  rw [List.getElem?_set]
  by_cases hj : j < n
  · by_cases hij : i = j
    · subst hij
      rw [if_pos rfl, if_pos (by rw [ints_len]; exact h), ints_get h, if_pos rfl]
    · rw [if_neg hij, ints_get hj, ints_get hj, if_neg (fun e => hij e.symm)]
  · rw [if_neg (by omega), List.getElem?_eq_none (by rw [ints_len]; omega), List.getElem?_eq_none (by rw [ints_len]; omega)]
theorem ints_swap {f : Nat → Nat} {n i j : Nat} (hi : i < n) (hj : j < n) (h : i ≠ j) : ((intsF f n).set i (.int .i64 (f j))).set j (.int .i64 (f i)) = intsF (swapF f i j) n := by
  rw [ints_set hi, ints_set hj]
  congr 1
  funext k
  unfold swapF
  (repeat' split) <;> first | rfl | (exfalso; omega)
end Go.Free.Sorts
end

section
namespace Go.Free
open Go.RowKit
/-! ### Operands -/
def opF (E : Env) : Operand → Option Fa
  | .tmp t => look E t
  | .const v => some (.ex v)
  | .global g => some (.ex (.pointer (some ⟨g, 0, none⟩)))
  | .func f => some (.ex (.func (.func f) #[] #[]))
theorem opF_den {ops : Array Oper} {i : Nat} {o : Oper} {E : Env} {a : Act} {w : World} (ho : ops[i]? = some o) {x : Operand} (hx : x ∈ o.op.operands)
    (hs : ∀ t, t ∈ looks ops i → ∀ f, look E t = some f → f.den w (a.slot t)) {f : Fa} (hf : opF E x = some f) : f.den w (a.eval x) := by
  cases x with
  | tmp t =>
    refine hs t ?_ f hf
    simp only [looks, ho, Option.map_some, Option.getD_some, Oper.looksAt]
    exact List.mem_append_left _ (List.mem_filterMap.2 ⟨.tmp t, by simpa using hx, rfl⟩)
  | const v => simp only [opF, Option.some.injEq] at hf; subst hf; simp [Fa.den, Act.eval]
  | global g => simp only [opF, Option.some.injEq] at hf; subst hf; simp [Fa.den, Act.eval]
  | func g => simp only [opF, Option.some.injEq] at hf; subst hf; simp [Fa.den, Act.eval]
def wantB (ops : Array Oper) (E : Env) (o : Oper) : Option Bool :=
  match o.guard with
  | none => some true
  | some (j, want) =>
    match dst ops j with
    | none => none
    | some d => match look E d with
      | some (.ex (.bool b)) => some (b == want)
      | some (.ex (.tuple _)) => some false
      | _ => none
theorem wantB_spec {ops : Array Oper} {i n : Nat} {o : Oper} {E : Env} {a : Act} {w : World} {b : Bool} (ho : ops[i]? = some o) (_hsh : Sh n a)
    (hs : ∀ t, t ∈ looks ops i → ∀ f, look E t = some f → f.den w (a.slot t)) (h : wantB ops E o = some b) : Region.wanted o (yielded ops a.tmps) = b := by
  unfold wantB at h
  unfold Region.wanted
  cases hg : o.guard with
  | none => rw [hg] at h; simpa using h
  | some jw =>
    obtain ⟨j, want⟩ := jw
    rw [hg] at h
    simp only at h ⊢
    cases hd : dst ops j with
    | none => rw [hd] at h; simp at h
    | some d =>
      rw [hd] at h
      simp only at h
      cases hl : look E d with
      | none => rw [hl] at h; simp at h
      | some f =>
        rw [hl] at h
        cases f with
        | is p => simp at h
        | tup l => simp at h
        | old w0 f => simp at h
        | ex v =>
          have hden := hs d (by
            simp only [looks, ho, Option.map_some, Option.getD_some, Oper.looksAt]
            refine List.mem_append_right _ ?_
            rw [hg]
            simp only [dst] at hd
            simp [hd]) _ hl
          simp only [Fa.den, Act.slot] at hden
          have hd' : (ops[j]?).bind (·.dst) = some d := hd
          cases v <;> simp at h
          case bool c =>
            have hlt : d < a.tmps.size := by
              rcases Nat.lt_or_ge d a.tmps.size with h' | h'
              · exact h'
              · simp [Array.getD, Nat.not_lt.2 h', undef] at hden
            have : yielded ops a.tmps j = some c := by
              unfold yielded
              rw [hd']
              simp only [Option.bind_some]
              rw [Array.getElem?_eq_getElem hlt]
              simp only [Array.getD, hlt, dite_true] at hden
              have hden' : a.tmps[d] = Value.bool c := hden
              rw [hden']
            rw [this]
            subst h
            cases c <;> cases want <;> rfl
          case tuple c =>
            have : yielded ops a.tmps j = none := by
              unfold yielded
              rw [hd']
              simp only [Option.bind_some]
              rcases Nat.lt_or_ge d a.tmps.size with h' | h'
              · rw [Array.getElem?_eq_getElem h']
                simp only [Array.getD, h', dite_true] at hden
                have hden' : a.tmps[d] = Value.tuple c := hden
                rw [hden']
              · rw [Array.getElem?_eq_none h']
            rw [this]
            subst h
            cases want <;> rfl
section
variable {P : Program} {ops : Array Oper} {Q : Exit → Act → World → Prop} {n : Nat} {I : World → Prop} {k i : Nat} {E : Env} {o : Oper} {d : Bool}
theorem dst_of (ho : ops[i]? = some o) : dst ops i = o.dst := by simp [dst, ho]
theorem Step.run (ho : ops[i]? = some o) (hg : wantB ops E o = some true) {F : Fa}
    (h : ∀ (a : Act) (w : World), I w → (∀ x, x ∈ o.op.operands → ∀ f, opF E x = some f → f.den w (a.eval x)) →
      ∃ (v : Value) (w' : World), (execOp a.eval o).run P w = .ok (.value v) w' ∧ Below w.heap.size w w' ∧ F.den w' v) : Step P ops Q n I i E F := by
  intro a w hI hsh hs
  obtain ⟨v, w', hr, hb, hF⟩ := h a w hI (fun x hx f hf => opF_den ho hx (fun t ht => hs t (.inl ht)) hf)
  unfold wpOp
  simp only [ho, wantB_spec ho hsh (fun t ht => hs t (.inl ht)) hg, if_true]
  refine .inl ?_
  unfold Oper.wp
  rw [hr]
  exact ⟨v, by rw [dst_of ho], hb, hF⟩
theorem Step.runK (ho : ops[i]? = some o) (hg : wantB ops E o = some true) {F : Fa}
    (h : ∀ (a : Act) (w : World), I w → (∀ x, x ∈ o.op.operands → ∀ f, opF E x = some f → f.den w (a.eval x)) → (∀ t, n ≤ t → ∀ f, look E t = some f → f.den w (a.slot t)) →
      ∃ (v : Value) (w' : World), (execOp a.eval o).run P w = .ok (.value v) w' ∧ Below w.heap.size w w' ∧ F.den w' v) : Step P ops Q n I i E F := by
  intro a w hI hsh hs
  obtain ⟨v, w', hr, hb, hF⟩ := h a w hI (fun x hx f hf => opF_den ho hx (fun t ht => hs t (.inl ht)) hf) (fun t ht => hs t (.inr ht))
  unfold wpOp
  simp only [ho, wantB_spec ho hsh (fun t ht => hs t (.inl ht)) hg, if_true]
  refine .inl ?_
  unfold Oper.wp
  rw [hr]
  exact ⟨v, by rw [dst_of ho], hb, hF⟩
theorem Step.skip (ho : ops[i]? = some o) (hg : wantB ops E o = some false) : Step P ops Q n I i E (.ex undef) := by
  intro a w hI hsh hs
  unfold wpOp
  simp only [ho, wantB_spec ho hsh (fun t ht => hs t (.inl ht)) hg, Bool.false_eq_true, if_false]
  exact ⟨undef, by rw [dst_of ho], Below.refl _ _, by simp [Fa.den]⟩
theorem Plan.step {F : Fa} (ho : ops[i]? = some o) (hs : Step P ops Q n I i E F) (h : Plan P ops Q n I d k (i + 1) (setE o.dst F E)) : Plan P ops Q n I d (k + 1) i E :=
  .inl ⟨F, hs, by rw [dst_of ho]; exact h⟩
theorem Plan.skip (ho : ops[i]? = some o) (hg : wantB ops E o = some false) (h : Plan P ops Q n I d k (i + 1) (setE o.dst (.ex undef) E)) : Plan P ops Q n I d (k + 1) i E :=
  Plan.step ho (Step.skip ho hg) h
theorem Plan.move {x : Operand} {F : Fa} (ho : ops[i]? = some o) (hop : o.op = .move x) (hg : wantB ops E o = some true) (hx : opF E x = some F)
    (h : Plan P ops Q n I d k (i + 1) (setE o.dst F E)) : Plan P ops Q n I d (k + 1) i E :=
  Plan.step ho (Step.run ho hg fun a w _ hs => ⟨a.eval x, w, by simp [execOp, hop], Below.refl _ _, hs x (by simp [hop, Op.operands]) F hx⟩) h
theorem Plan.assign {x : Operand} {F : Fa} (ho : ops[i]? = some o) (hop : o.op = .assign x) (hg : wantB ops E o = some true) (hx : opF E x = some F)
    (h : Plan P ops Q n I d k (i + 1) (setE o.dst F E)) : Plan P ops Q n I d (k + 1) i E :=
  Plan.step ho (Step.run ho hg fun a w _ hs => ⟨a.eval x, w, by simp [execOp, hop], Below.refl _ _, hs x (by simp [hop, Op.operands]) F hx⟩) h
theorem Plan.pick {c x y : Operand} {b : Bool} {F : Fa} (ho : ops[i]? = some o) (hop : o.op = .pick c x y) (hg : wantB ops E o = some true) (hc : opF E c = some (.ex (.bool b))) (hx : opF E (if b then x else y) = some F)
    (h : Plan P ops Q n I d k (i + 1) (setE o.dst F E)) : Plan P ops Q n I d (k + 1) i E :=
  Plan.step ho (Step.run ho hg fun a w _ hs => by
    have h1 := hs c (by simp [hop, Op.operands]) _ hc
    have h2 := hs (if b then x else y) (by cases b <;> simp [hop, Op.operands]) _ hx
    simp only [Fa.den] at h1
    refine ⟨a.eval (if b then x else y), w, ?_, Below.refl _ _, h2⟩
    cases b <;> simp [execOp, hop, h1, asBool]) h
/-! ### Numbers -/
def intVal (op : BinOp) (k : IntKind) (x y : Int) : Option Value :=
  match op with
  | .add => some (.int k (k.wrap (x + y)))
  | .sub => some (.int k (k.wrap (x - y)))
  | .mul => some (.int k (k.wrap (x * y)))
  | .quo => if y = 0 then none else some (.int k (k.wrap (x.tdiv y)))
  | .rem => if y = 0 then none else some (.int k (x.tmod y))
  | .and => some (.int k (k.wrap (BitVec.ofInt k.bits x &&& BitVec.ofInt k.bits y).toNat))
  | .or => some (.int k (k.wrap (BitVec.ofInt k.bits x ||| BitVec.ofInt k.bits y).toNat))
  | .xor => some (.int k (k.wrap (BitVec.ofInt k.bits x ^^^ BitVec.ofInt k.bits y).toNat))
  | .andNot => some (.int k (k.wrap (BitVec.ofInt k.bits x &&& ~~~BitVec.ofInt k.bits y).toNat))
  | .eql => some (.bool (x == y))
  | .neq => some (.bool (x != y))
  | .lss => some (.bool (x < y))
  | .leq => some (.bool (x ≤ y))
  | .gtr => some (.bool (x > y))
  | .geq => some (.bool (x ≥ y))
  | _ => none
theorem run_eqGuard_int {w : World} (op : BinOp) (t : TypeId) (x y : Operand) (k k' : IntKind) (p q : Int) : (eqGuard op t x y (.int k p) (.int k' q)).run P w = .ok () w := by
  cases op <;> simp [eqGuard]
theorem run_eqGuard_str {w : World} (op : BinOp) (t : TypeId) (x y : Operand) (p q : ByteArray) : (eqGuard op t x y (.string p) (.string q)).run P w = .ok () w := by
  cases op <;> simp [eqGuard]
theorem intVal_run {w : World} {op : BinOp} {t : TypeId} {kd : IntKind} {p q : Int} {v : Value} (h : intVal op kd p q = some v) : (binOp op t (.int kd p) (.int kd q)).run P w = .ok v w := by
  cases op <;> simp only [intVal, Option.some.injEq, reduceCtorEq] at h <;>
    first
    | (subst h; simp [binOp, Op.intArith, Op.intBits, Op.intCmp]; done)
    | (split at h
       · simp at h
       · rename_i hy; simp only [Option.some.injEq] at h; subst h; simp [binOp, Op.intDiv, hy])
theorem Plan.ints {op : BinOp} {xt yt : TypeId} {x y : Operand} {kd : IntKind} {p q : Int} {v : Value} (ho : ops[i]? = some o) (hop : o.op = .binOp op xt x y yt) (hg : wantB ops E o = some true)
    (hx : opF E x = some (.ex (.int kd p))) (hy : opF E y = some (.ex (.int kd q))) (hv : intVal op kd p q = some v)
    (h : Plan P ops Q n I d k (i + 1) (setE o.dst (.ex v) E)) : Plan P ops Q n I d (k + 1) i E :=
  Plan.step ho (Step.run ho hg fun a w _ hs => by
    have h1 := hs x (by simp [hop, Op.operands]) _ hx
    have h2 := hs y (by simp [hop, Op.operands]) _ hy
    simp only [Fa.den] at h1 h2
    refine ⟨v, w, ?_, Below.refl _ _, by simp [Fa.den]⟩
    simp [execOp, hop, h1, h2, run_eqGuard_int, intVal_run hv]) h
def shVal (op : BinOp) (k : IntKind) (x y : Int) : Option Value :=
  if y < 0 then none else
  match op with
  | .shl => some (.int k (k.wrap (x * 2 ^ (min y.toNat k.bits))))
  | .shr => some (.int k (x.fdiv (2 ^ (min y.toNat k.bits))))
  | _ => none
theorem shVal_run {w : World} {op : BinOp} {t : TypeId} {kd ky : IntKind} {p q : Int} {v : Value} (h : shVal op kd p q = some v) : (binOp op t (.int kd p) (.int ky q)).run P w = .ok v w := by
  unfold shVal at h
  split at h
  · simp at h
  · rename_i hq
    cases op <;> simp only [reduceCtorEq, Option.some.injEq] at h <;> (subst h; simp [binOp, Op.shift, hq])
theorem Plan.shift {op : BinOp} {xt yt : TypeId} {x y : Operand} {kd ky : IntKind} {p q : Int} {v : Value} (ho : ops[i]? = some o) (hop : o.op = .binOp op xt x y yt) (hg : wantB ops E o = some true)
    (hx : opF E x = some (.ex (.int kd p))) (hy : opF E y = some (.ex (.int ky q))) (hv : shVal op kd p q = some v)
    (h : Plan P ops Q n I d k (i + 1) (setE o.dst (.ex v) E)) : Plan P ops Q n I d (k + 1) i E :=
  Plan.step ho (Step.run ho hg fun a w _ hs => by
    have h1 := hs x (by simp [hop, Op.operands]) _ hx
    have h2 := hs y (by simp [hop, Op.operands]) _ hy
    simp only [Fa.den] at h1 h2
    refine ⟨v, w, ?_, Below.refl _ _, by simp [Fa.den]⟩
    simp [execOp, hop, h1, h2, run_eqGuard_int, shVal_run hv]) h
def unVal : UnOp → Value → Option Value
  | .neg, .int k x => some (.int k (k.wrap (0 - x)))
  | .not, .bool b => some (.bool !b)
  | .xor, .int k x => some (.int k (k.wrap (BitVec.ofInt k.bits (if k.signed then -1 else k.max) ^^^ BitVec.ofInt k.bits x).toNat))
  | _, _ => none
theorem unVal_run {w : World} {op : UnOp} {p v : Value} (h : unVal op p = some v) : (Op.unary op p).run P w = .ok v w := by
  cases op <;> cases p <;> simp only [unVal, Option.some.injEq, reduceCtorEq] at h <;> (subst h; simp [Op.unary, Op.intArith, Op.intBits])
theorem Plan.un {op : UnOp} {xt : TypeId} {x : Operand} {p v : Value} (ho : ops[i]? = some o) (hop : o.op = .unOp op xt x) (hg : wantB ops E o = some true)
    (hx : opF E x = some (.ex p)) (hv : unVal op p = some v)
    (h : Plan P ops Q n I d k (i + 1) (setE o.dst (.ex v) E)) : Plan P ops Q n I d (k + 1) i E :=
  Plan.step ho (Step.run ho hg fun a w _ hs => by
    have h1 := hs x (by simp [hop, Op.operands]) _ hx
    simp only [Fa.den] at h1
    refine ⟨v, w, ?_, Below.refl _ _, by simp [Fa.den]⟩
    simp [execOp, hop, h1, unVal_run hv]) h
theorem Plan.convInt {st dt : TypeId} {x : Operand} {kd kd' : IntKind} {p : Int} (ho : ops[i]? = some o) (hop : o.op = .convert st dt x) (hg : wantB ops E o = some true)
    (hx : opF E x = some (.ex (.int kd p))) (hsrc : P.underlying st = some (.int kd)) (hdst : P.underlying dt = some (.int kd'))
    (h : Plan P ops Q n I d k (i + 1) (setE o.dst (.ex (.int kd' (kd'.wrap p))) E)) : Plan P ops Q n I d (k + 1) i E :=
  Plan.step ho (Step.run ho hg fun a w _ hs => by
    have h1 := hs x (by simp [hop, Op.operands]) _ hx
    simp only [Fa.den] at h1
    refine ⟨_, w, ?_, Below.refl _ _, by simp only [Fa.den]; rfl⟩
    simp [execOp, hop, h1, convert, run_underlying hsrc, run_underlying hdst, Conv.intToInt]) h
/-! ### Strings -/
def str (l : List UInt8) : Value := .string ⟨l.toArray⟩
def strVal2 (op : BinOp) (a b : List UInt8) : Option Value :=
  match op with
  | .eql => some (.bool (a == b))
  | .neq => some (.bool !(a == b))
  | .lss => some (.bool (Op.bytesLess a b))
  | _ => none
theorem Plan.strs {op : BinOp} {xt yt : TypeId} {x y : Operand} {p q : List UInt8} {v : Value} (ho : ops[i]? = some o) (hop : o.op = .binOp op xt x y yt) (hg : wantB ops E o = some true)
    (hx : opF E x = some (.ex (str p))) (hy : opF E y = some (.ex (str q))) (hv : strVal2 op p q = some v)
    (h : Plan P ops Q n I d k (i + 1) (setE o.dst (.ex v) E)) : Plan P ops Q n I d (k + 1) i E :=
  Plan.step ho (Step.run ho hg fun a w _ hs => by
    have h1 := hs x (by simp [hop, Op.operands]) _ hx
    have h2 := hs y (by simp [hop, Op.operands]) _ hy
    simp only [Fa.den, str] at h1 h2
    refine ⟨v, w, ?_, Below.refl _ _, by simp [Fa.den]⟩
    cases op <;> simp only [strVal2, Option.some.injEq, reduceCtorEq] at hv <;> (subst hv; simp [execOp, hop, h1, h2, run_eqGuard_str, binOp_string_eql, binOp_string_neq, binOp_string_lss])) h
theorem Plan.lenStr {t : TypeId} {x : Operand} {p : List UInt8} (ho : ops[i]? = some o) (hop : o.op = .call { callee := .builtin .len, args := #[x], argTypes := #[t] }) (hg : wantB ops E o = some true)
    (hx : opF E x = some (.ex (str p))) (hu : P.underlying t = some .string)
    (h : Plan P ops Q n I d k (i + 1) (setE o.dst (.ex (.int .i64 p.length)) E)) : Plan P ops Q n I d (k + 1) i E :=
  Plan.step ho (Step.run ho hg fun a w _ hs => by
    have h1 := hs x (by simp [hop, Op.operands, Call.operands]) _ hx
    simp only [Fa.den, str] at h1
    refine ⟨.int .i64 p.length, w, ?_, Below.refl _ _, by simp [Fa.den]⟩
    have hr := run_len_string (P := P) (w := w) t o.type ⟨p.toArray⟩ hu
    have hsz : ((ByteArray.mk p.toArray).size : Int) = p.length := by rw [ByteArray.size_mk']; simp
    rw [hsz] at hr
    simp only [execOp, hop, resolve, invoke, builtin, List.map_toArray, List.map_cons, List.map_nil, h1, Sem.run_bind, Sem.run_pure, Result.andThen_ok, hr]
    rfl) h
theorem Plan.index {t : TypeId} {x y : Operand} {p : List UInt8} {kd : IntKind} {j : Int} (ho : ops[i]? = some o) (hop : o.op = .index t x y) (hg : wantB ops E o = some true)
    (hx : opF E x = some (.ex (str p))) (hy : opF E y = some (.ex (.int kd j))) (hu : P.underlying t = some .string) (h0 : 0 ≤ j) (h1 : j < p.length)
    (h : Plan P ops Q n I d k (i + 1) (setE o.dst (.ex (.int .u8 (p.getD j.toNat 0).toNat)) E)) : Plan P ops Q n I d (k + 1) i E :=
  Plan.step ho (Step.run ho hg fun a w _ hs => by
    have e1 := hs x (by simp [hop, Op.operands]) _ hx
    have e2 := hs y (by simp [hop, Op.operands]) _ hy
    simp only [Fa.den, str] at e1 e2
    refine ⟨_, w, ?_, Below.refl _ _, by simp only [Fa.den]; rfl⟩
    have hlt : j.toNat < (ByteArray.mk p.toArray).size := by simp [ByteArray.size]; omega
    have hget : (ByteArray.mk p.toArray)[j.toNat]? = some (p.getD j.toNat 0) := by
      rw [ByteArray.getElem?_lt' _ _ hlt]
      have hl : j.toNat < p.length := by omega
      simp only [List.getD_eq_getElem?_getD, List.getElem?_eq_getElem hl, Option.getD_some]
      rfl
    simp [execOp, hop, e1, e2, Instr.index, asIntOf, run_underlying hu, h0, hget]) h
end
end Go.Free
end

section
namespace Go.Free
open Go.RowKit
/-! ### Slices that are read -/
def rowH (sz : Nat) (cs : List Value) (w : World) (v : Value) : Prop :=
  ∃ A n c, v = .slice A n c ∧ n ≤ c ∧ c ≤ 9223372036854775807 ∧ cs.length = n * sz ∧ (A = none → c = 0) ∧ (∀ j u, cs[j]? = some u → ∃ ad, A = some ad ∧ w.cell? (ad.add j) = some u)
theorem rowH_mono {sz : Nat} {cs : List Value} {w w' : World} {v : Value} (hb : Below w.heap.size w w') (h : rowH sz cs w v) : rowH sz cs w' v := by
  obtain ⟨A, n, c, rfl, h1, h2, h3, h5, h4⟩ := h
  refine ⟨A, n, c, rfl, h1, h2, h3, h5, fun j u hu => ?_⟩
  obtain ⟨ad, rfl, hc⟩ := h4 j u hu
  exact ⟨ad, rfl, (hb.cell (World.block_lt_of_cell? w _ hc)).trans hc⟩
def rowP (sz : Nat) (cs : List Value) : Pd := ⟨rowH sz cs, fun _ _ _ hb h => rowH_mono hb h⟩
def row (sz : Nat) (cs : List Value) : Fa := .is (rowP sz cs)
def bs (l : List UInt8) : List Value := l.map fun b => .int .u8 b.toNat
theorem bs_length (l : List UInt8) : (bs l).length = l.length := by simp [bs]
theorem bs_append (l m : List UInt8) : bs (l ++ m) = bs l ++ bs m := by simp [bs]
theorem bs_one (l : List UInt8) : ∀ u ∈ bs l, u.oneCell' = true := by
  intro u hu
  simp only [bs, List.mem_map] at hu
  obtain ⟨b, _, rfl⟩ := hu
  rfl
def bytesF (l : List UInt8) : Fa := row 1 (bs l)
/-! ### Rows of the call's own -/
def ownH (B e sz : Nat) (cs : List Value) (w : World) (v : Value) : Prop := B ≤ w.heap.size ∧ ∃ n, w.ownsRow B e sz v n cs
theorem ownH_mono {B e sz : Nat} {cs : List Value} {w w' : World} {v : Value} (hb : Below w.heap.size w w') (h : ownH B e sz cs w v) : ownH B e sz cs w' v := by
  obtain ⟨hB, n, hn⟩ := h
  exact ⟨Nat.le_trans hB hb.size, n, hn.kept (row := none) ⟨hb.os, hb.tape, hb.output, hb.size, fun i hi _ => hb.block i hi⟩ (by cases v.ownBlock <;> simp)⟩
def own (B e sz : Nat) (cs : List Value) : Fa := .is ⟨ownH B e sz cs, fun _ _ _ hb h => ownH_mono hb h⟩
theorem own_row {B e sz : Nat} {cs : List Value} {w : World} {v : Value} (h : ownH B e sz cs w v) : rowH sz cs w v := by
  obtain ⟨_, n, hn⟩ := h
  have hlen := hn.1
  rcases hn.2 with ⟨rfl, rfl⟩ | ⟨g, cap, cur, rfl, hb, hh, h1, h2, h3, h4⟩
  · exact ⟨none, 0, 0, rfl, Nat.le_refl _, by omega, hlen, fun _ => rfl, fun j u hu => by
      have : cs = [] := List.eq_nil_of_length_eq_zero (by simpa using hlen)
      simp [this] at hu⟩
  · exact ⟨_, n, cap, rfl, h1, by simpa [maxLen] using h2, hlen, (fun h => by cases h), fun j u hu => ⟨_, rfl, hn.cells (g := g) rfl j u hu⟩⟩
theorem own_lower {B B' e sz : Nat} {cs : List Value} {w : World} {v : Value} (h : ownH B e sz cs w v) (hB : B' ≤ B) : ownH B' e sz cs w v := by
  obtain ⟨h0, n, hlen, hn⟩ := h
  refine ⟨Nat.le_trans hB h0, n, hlen, ?_⟩
  rcases hn with h1 | ⟨g, cap, cur, rfl, hb, rest⟩
  · exact .inl h1
  · exact .inr ⟨g, cap, cur, rfl, Nat.le_trans hB hb, rest⟩
/-! ### Facts that follow -/
def Sub (I : World → Prop) (g f : Fa) : Prop := ∀ w v, I w → g.den w v → f.den w v
theorem Sub.refl {I : World → Prop} (f : Fa) : Sub I f f := fun _ _ _ h => h
theorem Sub.own {I : World → Prop} {B e sz : Nat} {cs : List Value} : Sub I (Free.own B e sz cs) (row sz cs) := fun _ _ _ h => by
  simp only [Free.own, row, rowP, Fa.den] at h ⊢; exact own_row h
abbrev old (w0 : World) (f : Fa) : Fa := .old w0 f
theorem Sub.old {I : World → Prop} {w0 : World} {f : Fa} (hI : ∀ w, I w → Below w0.heap.size w0 w) : Sub I (Free.old w0 f) f := fun w v hw h => by
  simp only [Fa.den] at h; exact Fa.mono f w0 w v (hI w hw) h
theorem Sub.oldOwn {I : World → Prop} {w0 : World} {B e sz : Nat} {cs : List Value} (hI : ∀ w, I w → Below w0.heap.size w0 w) : Sub I (Free.old w0 (Free.own B e sz cs)) (row sz cs) :=
  fun w v hw h => Sub.own w v hw (Sub.old hI w v hw h)
/-! ### Functions -/
def Spc (P : Program) (f : FuncId) (As : List Fa) (R : Nat → Fa) : Prop :=
  ∀ (w : World) (args : List Value), Fa.dens As w args → Calls P f args.toArray w fun e w' => ∃ v, e = .returned v ∧ Below w.heap.size w w' ∧ ∀ B, B ≤ w.heap.size → (R B).den w' v
section
variable {P : Program} {ops : Array Oper} {Q : Exit → Act → World → Prop} {n : Nat} {I : World → Prop} {k i : Nat} {E : Env} {o : Oper} {d : Bool}
def Opnds (I : World → Prop) (E : Env) : List Operand → List Fa → Prop
  | [], fs => fs = []
  | x :: xs, fs => ∃ g f r, opF E x = some g ∧ Sub I g f ∧ fs = f :: r ∧ Opnds I E xs r
theorem Opnds.nil : Opnds I E [] [] := rfl
theorem Opnds.cons {x : Operand} {xs : List Operand} {g f : Fa} {r : List Fa} (h : opF E x = some g) (hs : Sub I g f) (hr : Opnds I E xs r) : Opnds I E (x :: xs) (f :: r) := ⟨g, f, r, h, hs, rfl, hr⟩
theorem Opnds.dens {w : World} (hI : I w) : ∀ {xs : List Operand} {fs : List Fa} {a : Act}, Opnds I E xs fs → (∀ x, x ∈ xs → ∀ f, opF E x = some f → f.den w (a.eval x)) → Fa.dens fs w (xs.map a.eval)
  | [], fs, _, h, _ => by simp only [Opnds] at h; subst h; simp [Fa.dens]
  | x :: xs, fs, a, h, hs => by
    obtain ⟨g, f, r, h1, h2, rfl, h3⟩ := h
    simp only [Fa.dens, List.map_cons]
    exact ⟨_, _, rfl, h2 w _ hI (hs x List.mem_cons_self g h1), Opnds.dens hI h3 fun y hy => hs y (List.mem_cons_of_mem _ hy)⟩
theorem Step.call {f : FuncId} {xs : List Operand} {ts : Array TypeId} {fs : List Fa} {R : Nat → Fa} {fn : Func} {B : Nat} (ho : ops[i]? = some o)
    (hop : o.op = .call { callee := .value (.func f), args := xs.toArray, argTypes := ts }) (hg : wantB ops E o = some true)
    (hf : P.funcs[f]? = some fn) (hbody : fn.body.isNone = false) (hname : (fn.name == "runtime.NumGoroutine") = false) (hB : ∀ w, I w → B ≤ w.heap.size)
    (hx : Opnds I E xs fs) (hc : Spc P f fs R) : Step P ops Q n I i E (R B) := by
  intro a w hI hsh hs
  unfold wpOp
  simp only [ho, wantB_spec ho hsh (fun t ht => hs t (.inl ht)) hg, if_true]
  refine .inl ?_
  unfold Oper.wp
  have hrun : (execOp a.eval o).run P w = .ok (.enter f (xs.map a.eval).toArray) w := by
    have hn : ¬ fn.name = "runtime.NumGoroutine" := by simpa using hname
    have hb : ¬ fn.body = none := by intro e; rw [e] at hbody; cases hbody
    simp [execOp, hop, resolve, invoke, callFunc, Deferred.ofValue, Act.eval, hf, hb, hn]
  rw [hrun]
  simp only [Oper.upon]
  have hd := Opnds.dens (a := a) hI hx (fun x hxm f hf => opF_den ho (by simp [hop, Op.operands, Call.operands, hxm]) (fun t ht => hs t (.inl ht)) hf)
  refine (hc w _ hd).mono ?_
  rintro e w' ⟨v, rfl, hb, hR⟩
  exact ⟨v, by rw [dst_of ho], hb, hR B (hB w hI)⟩
theorem Plan.call {f : FuncId} {xs : List Operand} {ts : Array TypeId} {fs : List Fa} {R : Nat → Fa} {fn : Func} {B : Nat} (ho : ops[i]? = some o)
    (hop : o.op = .call { callee := .value (.func f), args := xs.toArray, argTypes := ts }) (hg : wantB ops E o = some true) (hc : Spc P f fs R)
    (hf : P.funcs[f]? = some fn) (hbody : fn.body.isNone = false) (hname : (fn.name == "runtime.NumGoroutine") = false) (hB : ∀ w, I w → B ≤ w.heap.size)
    (hx : Opnds I E xs fs) (h : Plan P ops Q n I d k (i + 1) (setE o.dst (R B) E)) : Plan P ops Q n I d (k + 1) i E :=
  Plan.step ho (Step.call ho hop hg hf hbody hname hB hx hc) h
theorem dens_get {w : World} : ∀ {l : List Fa} {xs : List Value} {j : Nat} {f : Fa}, Fa.dens l w xs → l[j]? = some f → ∃ v, xs[j]? = some v ∧ f.den w v
  | [], _, j, _, _, h => by simp at h
  | g :: l, xs, 0, f, hd, h => by
    simp only [Fa.dens] at hd
    obtain ⟨y, ys, rfl, h1, _⟩ := hd
    simp only [List.getElem?_cons_zero, Option.some.injEq] at h
    subst h
    exact ⟨y, rfl, h1⟩
  | g :: l, xs, j + 1, f, hd, h => by
    simp only [Fa.dens] at hd
    obtain ⟨y, ys, rfl, _, h2⟩ := hd
    simp only [List.getElem?_cons_succ] at h ⊢
    exact dens_get h2 h
theorem Plan.extract {x : Operand} {l : List Fa} {j : Nat} {f : Fa} (ho : ops[i]? = some o) (hop : o.op = .extract x j) (hg : wantB ops E o = some true)
    (hx : opF E x = some (.tup l)) (hj : l[j]? = some f) (h : Plan P ops Q n I d k (i + 1) (setE o.dst f E)) : Plan P ops Q n I d (k + 1) i E :=
  Plan.step ho (Step.run ho hg fun a w _ hs => by
    have h1 := hs x (by simp [hop, Op.operands]) _ hx
    simp only [Fa.den] at h1
    obtain ⟨xs, hxs, hd⟩ := h1
    obtain ⟨v, hv, hF⟩ := dens_get hd hj
    refine ⟨v, w, ?_, Below.refl _ _, hF⟩
    simp [execOp, hop, hxs, Instr.extract, hv]) h
/-! ### Operations on slices that are read -/
theorem Plan.lenRow {t e : TypeId} {x : Operand} {g : Fa} {sz m : Nat} {cs : List Value} (ho : ops[i]? = some o) (hop : o.op = .call { callee := .builtin .len, args := #[x], argTypes := #[t] }) (hg : wantB ops E o = some true)
    (hx : opF E x = some g) (hs : Sub I g (row sz cs)) (hu : P.underlying t = some (.slice e)) (hm : cs.length = m * sz) (hsz : 0 < sz)
    (h : Plan P ops Q n I d k (i + 1) (setE o.dst (.ex (.int .i64 m)) E)) : Plan P ops Q n I d (k + 1) i E :=
  Plan.step ho (Step.run ho hg fun a w hI hs' => by
    have h1 := hs w _ hI (hs' x (by simp [hop, Op.operands, Call.operands]) _ hx)
    obtain ⟨A, m', c, hv, _, _, hl, _, _⟩ := h1
    have : m' = m := Nat.eq_of_mul_eq_mul_right hsz (hl.symm.trans hm)
    subst this
    refine ⟨.int .i64 m', w, ?_, Below.refl _ _, by simp [Fa.den]⟩
    have hr : (Builtin.len_ #[t] o.type #[.slice A m' c]).run P w = .ok (goInt m') w := by simp [Builtin.len_, run_underlying hu]
    simp only [execOp, hop, resolve, invoke, builtin, List.map_toArray, List.map_cons, List.map_nil, hv, Sem.run_bind, Sem.run_pure, Result.andThen_ok, hr]
    rfl) h
theorem strOf_bs (l : List UInt8) : strOfNums (l.map fun b => (b.toNat : Int)) = ⟨l.toArray⟩ := by
  unfold strOfNums
  congr 1
  simp only [List.map_map]
  have : ((fun n : Int => UInt8.ofNat n.toNat) ∘ fun b : UInt8 => (b.toNat : Int)) = id := by
    funext b; simp
  rw [this, List.map_id]
theorem run_bytes_row {src e dt : TypeId} {w : World} {v : Value} {l : List UInt8} (hs : P.underlying src = some (.slice e)) (he : P.underlying e = some (.int .u8)) (hd : P.underlying dt = some .string)
    (h : rowH 1 (bs l) w v) : (convert src dt v).run P w = .ok (str l) w := by
  obtain ⟨A, m, c, rfl, _, _, hl, _, hc⟩ := h
  rw [bs_length, Nat.mul_one] at hl
  cases A with
  | none =>
    have hl0 : l = [] := by
      cases l with
      | nil => rfl
      | cons b l =>
        obtain ⟨ad, hA, _⟩ := hc 0 (.int .u8 b.toNat) (by simp [bs])
        cases hA
    subst hl0
    have := run_convert_bytes_nil (P := P) w src e hs he m c dt hd
    rw [this]; rfl
  | some ad =>
    obtain ⟨b, off, spot⟩ := ad
    -- an address with a spot has no cells: then the list is empty
    cases l with
    | nil =>
      simp only [List.length_nil] at hl
      subst hl
      simp [convert, run_underlying hs, run_underlying hd, run_underlying he, Conv.bytesToString, loadCells, loadCellsFrom, str, ByteArray.empty, ByteArray.emptyWithCapacity]
      rfl
    | cons x l =>
      have hspot : spot = none := by
        obtain ⟨ad', hA, hcell⟩ := hc 0 (.int .u8 x.toNat) (by simp [bs])
        cases hA
        simp only [Addr.add, if_true, World.cell?] at hcell
        split at hcell
        · cases spot with
          | none => rfl
          | some s => simp at hcell
        · cases hcell
      subst hspot
      have hr := run_convert_bytes_arg (P := P) w src e hs he b off m c ((x :: l).map fun b => (b.toNat : Int)) (by rw [List.length_map]; exact hl) (fun j hj => by
        have hlt : j < (x :: l).length := by omega
        obtain ⟨ad', hA, hcell⟩ := hc j (.int .u8 ((x :: l)[j]).toNat) (by simp only [bs, List.getElem?_map, List.getElem?_eq_getElem hlt, Option.map_some])
        cases hA
        have hadd : (⟨b, off, none⟩ : Addr).add j = ⟨b, off + j, none⟩ := by unfold Addr.add; split <;> simp_all
        rw [hadd] at hcell
        rw [hcell]
        simp only [List.getD_eq_getElem?_getD, List.getElem?_map, List.getElem?_eq_getElem hlt, Option.map_some, Option.getD_some]) dt hd
      rw [strOf_bs] at hr
      exact hr
theorem Plan.convBS {st dt e : TypeId} {x : Operand} {g : Fa} {p : List UInt8} (ho : ops[i]? = some o) (hop : o.op = .convert st dt x) (hg : wantB ops E o = some true)
    (hx : opF E x = some g) (hs : Sub I g (bytesF p)) (hsrc : P.underlying st = some (.slice e)) (hdst : P.underlying dt = some .string) (he : P.underlying e = some (.int .u8))
    (h : Plan P ops Q n I d k (i + 1) (setE o.dst (.ex (str p)) E)) : Plan P ops Q n I d (k + 1) i E :=
  Plan.step ho (Step.run ho hg fun a w hI hs' => by
    have h1 := hs w _ hI (hs' x (by simp [hop, Op.operands]) _ hx)
    refine ⟨str p, w, ?_, Below.refl _ _, by simp [Fa.den]⟩
    simp only [execOp, hop, Sem.run_bind, run_bytes_row hsrc he hdst h1, Result.andThen_ok, Sem.run_pure]) h
end
end Go.Free
end

section
namespace Go.Free
open Go.RowKit
inductive Kd where
  | int (k : IntKind)
  | str
  | bool
def Kd.ok : Kd → Value → Prop
  | .int k, v => ∃ n, v = .int k n ∧ (Lit.int k n).wf = true
  | .str, v => ∃ s : ByteArray, v = .string s ∧ s.size ≤ maxLen
  | .bool, v => ∃ b, v = .bool b
def CellsOk : List Kd → List Value → Prop
  | [], cs => cs = []
  | k :: r, cs => ∃ v r', cs = v :: r' ∧ k.ok v ∧ CellsOk r r'
theorem CellsOk.append : ∀ {k1 k2 : List Kd} {c1 c2 : List Value}, CellsOk k1 c1 → CellsOk k2 c2 → CellsOk (k1 ++ k2) (c1 ++ c2)
  | [], _, _, _, h1, h2 => by simp only [CellsOk] at h1; subst h1; exact h2
  | k :: r, k2, _, c2, ⟨v, r', h1, h3, h4⟩, h2 => by subst h1; exact ⟨v, r' ++ c2, rfl, h3, CellsOk.append h4 h2⟩
theorem CellsOk.length : ∀ {k : List Kd} {c : List Value}, CellsOk k c → c.length = k.length
  | [], _, h => by simp only [CellsOk] at h; subst h; rfl
  | k :: r, _, ⟨v, r', h1, _, h4⟩ => by subst h1; simp [CellsOk.length h4]
def flatFs (P : Program) (g : TypeId → Option (List Kd)) : List Field → Nat → Option (List Kd)
  | [], _ => some []
  | f :: fs, acc =>
    match g f.type with
    | none => none
    | some a => if f.offset = acc ∧ a.length = P.cellsOf f.type then (flatFs P g fs (acc + a.length)).map (a ++ ·) else none
def flatT (P : Program) : Nat → TypeId → Option (List Kd)
  | 0, _ => none
  | n + 1, t =>
    match P.underlying t with
    | some .bool => some [.bool]
    | some (.int k) => some [.int k]
    | some .string => some [.str]
    | some (.struct fs) => match flatFs P (flatT P n) fs.toList 0 with | some l => if l.length = P.cellsOf t then some l else none | none => none
    | some (.array m e) => match flatT P n e with | some l => if l.length = P.cellsOf e ∧ m * l.length = P.cellsOf t then some (List.replicate m l).flatten else none | none => none
    | _ => none
section
variable {H : Type} {enc : TypeId × Value → H} {P : Program} {w : World} {base : Nat} {spare : Nat → Bool} {held : Bool}
theorem flatFs_ok {g : TypeId → Option (List Kd)} {m : Nat} {cs : List Value} (hg : ∀ t l cs x, g t = some l → DataW.trod enc P w base spare held m t cs = some x → CellsOk l cs) :
    ∀ (fs : List Field) (acc : Nat) (l : List Kd), flatFs P g fs acc = some l → acc + l.length ≤ cs.length → (∀ f ∈ fs, ∃ x, DataW.trod enc P w base spare held m f.type ((cs.drop f.offset).take (P.cellsOf f.type)) = some x) →
      CellsOk l ((cs.drop acc).take l.length)
  | [], acc, l, h, _, _ => by simp only [flatFs, Option.some.injEq] at h; subst h; simp [CellsOk]
  | f :: fs, acc, l, h, hl, hf => by
    simp only [flatFs] at h
    cases hga : g f.type with
    | none => rw [hga] at h; cases h
    | some a =>
      rw [hga] at h
      simp only at h
      split at h
      · rename_i hc
        cases hr : flatFs P g fs (acc + a.length) with
        | none => rw [hr] at h; cases h
        | some b =>
          rw [hr] at h
          simp only [Option.map_some, Option.some.injEq] at h
          subst h
          obtain ⟨x, hx⟩ := hf f List.mem_cons_self
          have h1 := hg _ _ _ _ hga hx
          rw [hc.1, ← hc.2] at h1
          rw [List.length_append] at hl ⊢
          have h2 := flatFs_ok hg fs _ b hr (by omega) (fun f' hf' => hf f' (List.mem_cons_of_mem _ hf'))
          rw [List.take_add, List.drop_drop]
          exact h1.append h2
      · cases h
theorem flatT_ok : ∀ (n : Nat) (t : TypeId) (l : List Kd) (m : Nat) (cs : List Value) (x : DataW H × List MemPlace), flatT P n t = some l → DataW.trod enc P w base spare held m t cs = some x → CellsOk l cs
  | 0, _, _, _, _, _, h, _ => by simp [flatT] at h
  | n + 1, t, l, m, cs, x, h, hx => by
    unfold flatT at h
    cases hu : P.underlying t with
    | none => rw [hu] at h; cases h
    | some d =>
      rw [hu] at h
      cases d <;> simp only [reduceCtorEq, Option.some.injEq] at h
      case bool =>
        subst h
        obtain ⟨b, rfl, _⟩ := DataW.trod_bool hu hx
        exact ⟨_, _, rfl, ⟨b, rfl⟩, rfl⟩
      case int k =>
        subst h
        obtain ⟨b, rfl, _, hw⟩ := DataW.trod_int hu hx
        exact ⟨_, _, rfl, ⟨b, rfl, hw⟩, rfl⟩
      case string =>
        subst h
        obtain ⟨s, rfl, _, hw⟩ := DataW.trod_string hu hx
        exact ⟨_, _, rfl, ⟨s, rfl, hw⟩, rfl⟩
      case struct fs =>
        split at h
        · rename_i l' hl'
          split at h
          · rename_i hlen
            cases h
            obtain ⟨xs, k, rfl, _, hcl, hxl, hf⟩ := DataW.trod_struct hu hx
            have := flatFs_ok (cs := cs) (fun t l cs x h1 h2 => flatT_ok n t l k cs x h1 h2) fs.toList 0 l hl' (by omega) (fun f hfm => by
              obtain ⟨i, hi⟩ := List.getElem?_of_mem hfm
              have hi' : i < fs.toList.length := (List.getElem?_eq_some_iff.1 hi).1
              have hfi := hf i f (by simpa using hi)
              have hix : i < xs.length := by simp at hi'; omega
              exact ⟨xs[i], by rw [hfi, List.getElem?_eq_getElem hix]⟩)
            rw [List.drop_zero, List.take_of_length_le (by omega)] at this
            exact this
          · cases h
        · cases h
      case array q e =>
        split at h
        · rename_i l' hl'
          split at h
          · rename_i hlen
            cases h
            obtain ⟨xs, k, rfl, _, hcl, hxl, hf⟩ := DataW.trod_array hu hx
            have each : ∀ i, i < q → CellsOk l' ((cs.drop (i * P.cellsOf e)).take (P.cellsOf e)) := fun i hi => by
              have hfi := hf i hi
              have hix : i < xs.length := by omega
              rw [List.getElem?_eq_getElem hix] at hfi
              exact flatT_ok n e l' k _ _ hl' hfi
            have key : ∀ j, j ≤ q → CellsOk (List.replicate j l').flatten (cs.take (j * P.cellsOf e)) := by
              intro j
              induction j with
              | zero => intro _; simp [CellsOk]
              | succ j ih =>
                intro hj
                rw [List.replicate_succ', List.flatten_append, Nat.add_mul, Nat.one_mul, List.take_add]
                simp only [List.flatten_cons, List.flatten_nil, List.append_nil]
                exact (ih (by omega)).append (each j (by omega))
            have := key q (Nat.le_refl _)
            rw [List.take_of_length_le (by rw [hcl, ← hlen.2, hlen.1]; exact Nat.le_refl _)] at this
            exact this
          · cases h
        · cases h
theorem flat_row {t e : TypeId} {n len cap : Nat} {l : List Kd} {A : Option Addr} {d : DataW H} {ps : List MemPlace} (ht : P.underlying t = some (.slice e)) (hl : flatT P n e = some l) (hsz : P.cellsOf e = l.length)
    (h : DataW.Trod enc P w base spare held t (.slice A len cap) d ps) : ∃ ls : List (List Value), ls.length = len ∧ len ≤ 9223372036854775807 ∧ (∀ c ∈ ls, CellsOk l c) ∧ rowH l.length ls.flatten w (.slice A len cap) := by
  obtain ⟨fuel, hf⟩ := h
  have hmm : maxLen = 9223372036854775807 := rfl
  rcases DataW.trod_slice ht hf with ⟨hcs, _⟩ | ⟨x, ln, cp, elems, rest, m, _, hcs, _, hb, h1, h2, h3, h4, _, _⟩
  · simp [Value.cells] at hcs
    obtain ⟨rfl, rfl, rfl⟩ := hcs
    exact ⟨[], rfl, by omega, by simp, none, 0, 0, rfl, by omega, by omega, by simp, fun _ => rfl, fun j u hu => by simp at hu⟩
  · simp [Value.cells] at hcs
    obtain ⟨rfl, rfl, rfl⟩ := hcs
    have each : ∀ i, i < len → ∃ c, CellsOk l c ∧ ∀ j u, c[j]? = some u → w.cell? (x.add (i * l.length + j)) = some u := fun i hi => by
      have := h4 i hi
      rw [List.getElem?_eq_getElem (by omega), Option.bind_eq_some_iff, hsz] at this
      obtain ⟨c, hc, hc2⟩ := this
      obtain ⟨_, hcl, hcc⟩ := World.cells?_some hc
      refine ⟨c, flatT_ok n e l m _ _ hl hc2, fun j u hu => ?_⟩
      have hj : j < c.length := (List.getElem?_eq_some_iff.1 hu).1
      have := hcc j (by omega)
      rw [hu] at this
      rw [← this]
      congr 1
      unfold Addr.add
      by_cases e1 : i * l.length = 0 <;> by_cases e2 : j = 0 <;> simp [e1, e2, Nat.add_assoc]
      all_goals first | omega | skip
    have build : ∀ k, k ≤ len → ∃ ls : List (List Value), ls.length = k ∧ (∀ c ∈ ls, CellsOk l c) ∧ ∀ j u, ls.flatten[j]? = some u → w.cell? (x.add j) = some u := by
      intro k
      induction k with
      | zero => intro _; exact ⟨[], rfl, by simp, fun j u hu => by simp at hu⟩
      | succ k ih =>
        intro hk
        obtain ⟨ls, hls, hok, hc⟩ := ih (by omega)
        obtain ⟨c, hck, hcc⟩ := each k (by omega)
        have hfl : ls.flatten.length = k * l.length := by
          rw [← hls]
          clear hls hc
          induction ls with
          | nil => simp
          | cons a r ihr => rw [List.flatten_cons, List.length_append, (hok a List.mem_cons_self).length, ihr (fun c hc => hok c (List.mem_cons_of_mem _ hc)), List.length_cons, Nat.add_mul]; omega
        refine ⟨ls ++ [c], by simp [hls], fun c' hc' => by rcases List.mem_append.1 hc' with h | h; exact hok c' h; rw [List.mem_singleton.1 h]; exact hck, fun j u hu => ?_⟩
        rw [List.flatten_append] at hu
        simp only [List.flatten_cons, List.flatten_nil, List.append_nil] at hu
        by_cases hj : j < ls.flatten.length
        · rw [List.getElem?_append_left hj] at hu; exact hc j u hu
        · rw [List.getElem?_append_right (by omega)] at hu
          have := hcc _ u hu
          rw [show k * l.length + (j - ls.flatten.length) = j by omega] at this
          exact this
    obtain ⟨ls, hls, hok, hc⟩ := build len (Nat.le_refl _)
    refine ⟨ls, hls, by omega, hok, some x, len, cap, rfl, h1, by omega, ?_, (fun h => by cases h), fun j u hu => ⟨x, rfl, hc j u hu⟩⟩
    rw [← hls]
    clear hls hc
    induction ls with
    | nil => simp
    | cons a r ihr => rw [List.flatten_cons, List.length_append, (hok a List.mem_cons_self).length, ihr (fun c hc => hok c (List.mem_cons_of_mem _ hc)), List.length_cons, Nat.add_mul]; omega
end
end Go.Free
end

section
namespace Go.Free
open Go.RowKit
section
variable (P : Program) (n : Nat) (I : World → Prop)
def J (c : Code) (Q : Exit → Act → World → Prop) (E : Env) : Prop := ∀ a w, I w → Sh n a → Sat E a w → c.wp P Q a w
end
section
variable {P : Program} {n : Nat} {I : World → Prop} {Q : Exit → Act → World → Prop} {E : Env}
theorem J.seq {x y : Code} (h : J P n I x (Exit.then (y.wp P Q) Q) E) : J P n I (.seq x y) Q E := fun a w h1 h2 h3 => wp_seq (h a w h1 h2 h3)
theorem J.region {id : Nat} {ops : Array Oper} {draw : Bool} (hm : P.follows .mixedOrders = true) (hI : ∀ w w', I w → Below w.heap.size w w' → I w') (ht : tidyG ops n = true)
    (h : Plan P ops Q n I draw ops.size 0 E) : J P n I (.region id ops draw) Q E := fun _ _ h1 h2 h3 => wp_region_plan hm ht hI h1 h2 h3 h
theorem J.cond {c : Operand} {x y : Code} {b : Bool} (hc : opF E c = some (.ex (.bool b))) (ht : b = true → J P n I x Q E) (hf : b = false → J P n I y Q E) : J P n I (.cond c x y) Q E :=
  fun a w h1 h2 h3 => by
    have : a.eval c = .bool b := by
      cases c with
      | tmp t => have := h3 t _ hc; simpa [Fa.den, Act.slot, Act.eval] using this
      | const v => simp only [opF, Option.some.injEq, Fa.ex.injEq] at hc; subst hc; rfl
      | global g => simp [opF] at hc
      | func f => simp [opF] at hc
    exact wp_cond_split this (fun hb => ht hb a w h1 h2 h3) (fun hb => hf hb a w h1 h2 h3)
theorem J.block {id : Nat} {c : Code} (h : J P n I c (Exit.inBlock id Q) E) : J P n I (.block id c) Q E := fun a w h1 h2 h3 => wp_block (h a w h1 h2 h3)
def Nrm (n : Nat) (I : World → Prop) (Q : Act → World → Prop) (E : Env) : Prop := ∀ a w, I w → Sh n a → Sat E a w → Q a w
theorem J.skip (h : Nrm n I (Q .normal) E) : J P n I .skip Q E := fun a w h1 h2 h3 => wp_skip (h a w h1 h2 h3)
theorem J.exit {id : Nat} (h : Nrm n I (Q (.exit id)) E) : J P n I (.exit id) Q E := fun a w h1 h2 h3 => wp_exit (h a w h1 h2 h3)
theorem J.ret (h : Nrm n I (Q .ret) E) : J P n I .ret Q E := fun a w h1 h2 h3 => wp_ret (h a w h1 h2 h3)
def Weak (I : World → Prop) (E : Env) : Env → Prop
  | [] => True
  | (t, f) :: r => (∃ g, look E t = some g ∧ Sub I g f) ∧ Weak I E r
theorem Weak.sat {E' : Env} {a : Act} {w : World} (h : Weak I E E') (hI : I w) (hs : Sat E a w) : Sat E' a w := by
  induction E' with
  | nil => intro t f hf; simp [look] at hf
  | cons p r ih =>
    obtain ⟨t0, f0⟩ := p
    obtain ⟨⟨g, hg, hsub⟩, hr⟩ := h
    intro t f hf
    simp only [look] at hf
    by_cases ht : t0 = t
    · subst ht; simp only [if_true, Option.some.injEq] at hf; subst hf; exact hsub w _ hI (hs t0 g hg)
    · rw [if_neg ht] at hf; exact ih hr t f hf
theorem Weak.nil : Weak I E [] := trivial
theorem Weak.cons {t : Nat} {g f : Fa} {r : Env} (h : look E t = some g) (hs : Sub I g f) (hr : Weak I E r) : Weak I E ((t, f) :: r) := ⟨⟨g, h, hs⟩, hr⟩
theorem Sub.of_eq {f g : Fa} (h : g = f) : Sub I g f := h ▸ Sub.refl _
theorem J.weak {c : Code} (E' : Env) (h : Weak I E E') (hj : J P n I c Q E') : J P n I c Q E := fun a w h1 h2 h3 => hj a w h1 h2 (h.sat h1 h3)
theorem Nrm.weak {K : Act → World → Prop} (E' : Env) (h : Weak I E E') (hj : Nrm n I K E') : Nrm n I K E := fun a w h1 h2 h3 => hj a w h1 h2 (h.sat h1 h3)
theorem J.loop {σ : Type} {c : Code} (Ev : σ → Env) (ok : σ → Prop) (m : σ → Nat) (s0 : σ) (h0 : ok s0) (hE : Weak I E (Ev s0))
    (round : ∀ s, ok s → J P n I c (Exit.then (fun a w => ∃ s', ok s' ∧ m s' < m s ∧ I w ∧ Sh n a ∧ Sat (Ev s') a w) Q) (Ev s)) : J P n I (.loop c) Q E := by
  have key : ∀ (k : Nat) (s : σ), m s = k → ok s → ∀ a w, I w → Sh n a → Sat (Ev s) a w → ∀ (b : Frame) (kk : List Item) (cs : List Frame),
      ∃ e a' w', Q e a' w' ∧ Arrives P (lone (b.at a (.code c :: .inLoop c :: kk)) cs w) b kk cs e a' w' := by
    intro k
    induction k using Nat.strongRecOn with
    | _ k ih =>
      intro s hk hs a w h1 h2 h3 b kk cs
      obtain ⟨e, a₁, w₁, hq, harr⟩ := round s hs a w h1 h2 h3 b (.inLoop c :: kk) cs
      cases e with
      | normal =>
        obtain ⟨s', hok, hlt, h1', h2', h3'⟩ := hq
        obtain ⟨e₂, a₂, w₂, hq₂, harr₂⟩ := ih (m s') (hk ▸ hlt) s' rfl hok a₁ w₁ h1' h2' h3' b kk cs
        exact ⟨e₂, a₂, w₂, hq₂, .of_steps (Steps.trans harr (.one step_inLoop)) harr₂⟩
      | exit id => exact ⟨_, a₁, w₁, hq, .pass (x := .inLoop c) rfl (fun _ _ => .inl (by simp)) harr⟩
      | goto l => exact ⟨_, a₁, w₁, hq, .pass (x := .inLoop c) rfl (fun _ _ => .inl (by simp)) harr⟩
      | ret => exact ⟨_, a₁, w₁, hq, .pass (x := .inLoop c) rfl (fun _ _ => .inl (by simp)) harr⟩
      | panic ch => exact ⟨_, a₁, w₁, hq, .pass (x := .inLoop c) rfl (fun _ _ => .inl (by simp)) harr⟩
      | outgrown => exact ⟨_, a₁, w₁, hq, .pass (x := .inLoop c) rfl (fun _ _ => .inl (by simp)) harr⟩
  intro a w h1 h2 h3 b kk cs
  obtain ⟨e, a', w', hq, harr⟩ := key _ s0 rfl h0 a w h1 h2 (hE.sat h1 h3) b kk cs
  exact ⟨e, a', w', hq, .of_steps (.one step_loop) harr⟩
theorem J.seqMid {σ : Type} {x y : Code} (Ev : σ → Env) (ok : σ → Prop) (h : J P n I x (Exit.then (fun a w => ∃ s, ok s ∧ I w ∧ Sh n a ∧ Sat (Ev s) a w) Q) E) (k : ∀ s, ok s → J P n I y Q (Ev s)) : J P n I (.seq x y) Q E := by
  refine J.seq fun a w h1 h2 h3 => wp_mono (h a w h1 h2 h3) ?_
  intro e a' w' hq
  cases e with
  | normal => obtain ⟨s, hok, i1, i2, i3⟩ := hq; exact k s hok a' w' i1 i2 i3
  | exit id => exact hq
  | goto l => exact hq
  | ret => exact hq
  | panic c => exact hq
  | outgrown => exact hq
theorem Nrm.mid {σ : Type} {Ev : σ → Env} {ok : σ → Prop} (s : σ) (hok : ok s) (h : Weak I E (Ev s)) : Nrm n I (fun a w => ∃ s, ok s ∧ I w ∧ Sh n a ∧ Sat (Ev s) a w) E :=
  fun _ _ h1 h2 h3 => ⟨s, hok, h1, h2, h.sat h1 h3⟩
/-! ### Functions -/
def keepOld (w0 : World) : Fa → Fa
  | .ex v => .ex v
  | .tup l => .tup l
  | .is p => old w0 (.is p)
  | .old w1 f => .old w1 f
def envArgs (w0 : World) : List Fa → Nat → Env
  | [], _ => []
  | f :: fs, i => (i, keepOld w0 f) :: envArgs w0 fs (i + 1)
theorem keepOld_den {w0 : World} {f : Fa} {v : Value} (h : f.den w0 v) : (keepOld w0 f).den w0 v := by
  cases f with
  | ex u => exact h
  | tup l => exact h
  | is p => simpa [keepOld, Fa.den] using h
  | old w1 g => exact h
theorem envArgs_sat {w0 : World} {tmps : Array Value} : ∀ {fs : List Fa} {vs : List Value} {i : Nat}, Fa.dens fs w0 vs → (∀ j v, vs[j]? = some v → tmps[i + j]? = some v) →
    ∀ t f, look (envArgs w0 fs i) t = some f → f.den w0 (tmps.getD t undef)
  | [], _, _, _, _, t, f, h => by simp [envArgs, look] at h
  | g :: fs, vs, i, hd, hv, t, f, h => by
    simp only [Fa.dens] at hd
    obtain ⟨y, ys, rfl, h1, h2⟩ := hd
    simp only [envArgs, look] at h
    by_cases ht : i = t
    · subst ht
      simp only [if_true, Option.some.injEq] at h
      subst h
      have := hv 0 y rfl
      simp only [Nat.add_zero] at this
      have hlt : i < tmps.size := (Array.getElem?_eq_some_iff.1 this).1
      have hg : tmps.getD i undef = y := by
        simp only [Array.getD, hlt, dite_true]
        exact (Array.getElem?_eq_some_iff.1 this).2
      rw [hg]
      exact keepOld_den h1
    · rw [if_neg ht] at h
      exact envArgs_sat (i := i + 1) h2 (fun j v hj => by have := hv (j + 1) v (by simpa using hj); rw [← this]; congr 1; omega) t f h
def FnPost (P : Program) (fn : Func) (R : Nat → Fa) (w0 : World) : Exit → Act → World → Prop
  | .normal, a, w | .ret, a, w => a.defers = [] ∧ ∃ v, (results fn a.tmps).run P w = .ok v w ∧ Below w0.heap.size w0 w ∧ ∀ B, B ≤ w0.heap.size → (R B).den w v
  | _, _, _ => False
theorem Spc.intro {f : FuncId} {fn : Func} {c : Code} {As : List Fa} {R : Nat → Fa} (hf : P.funcs[f]? = some fn) (hb : fn.body = some c) (hsz : As.length ≤ fn.ntmps)
    (h : ∀ w0, J P fn.ntmps (fun w => Below w0.heap.size w0 w) c (FnPost P fn R w0) (envArgs w0 As 0)) : Spc P f As R := by
  intro w args hd
  have hlen : args.length = As.length := by
    have : ∀ (l : List Fa) (xs : List Value), Fa.dens l w xs → xs.length = l.length := by
      intro l
      induction l with
      | nil => intro xs hx; simp only [Fa.dens] at hx; subst hx; rfl
      | cons g l ih => intro xs hx; simp only [Fa.dens] at hx; obtain ⟨y, ys, rfl, _, h2⟩ := hx; simp [ih ys h2]
    exact this As args hd
  refine calls_of_wp hf hb ?_
  refine wp_mono (h w _ w (Below.refl _ _) ⟨by simp [hlen]; omega, rfl⟩ ?_) ?_
  · intro t f hf
    refine envArgs_sat (vs := args) hd (fun j v hj => ?_) t f hf
    have hlt : j < args.length := (List.getElem?_eq_some_iff.1 hj).1
    have hv : args[j] = v := by have := List.getElem?_eq_getElem hlt; rw [hj] at this; exact (Option.some.inj this).symm
    simp [Array.getElem?_append, hlt, hv]
  · rintro e a w' hq
    cases e <;> simp only [FnPost] at hq <;> first | exact hq.elim | skip
    all_goals
      obtain ⟨h1, v, h2, h3, h4⟩ := hq
      exact ⟨h1, v, h2, v, rfl, h3, h4⟩
theorem Spc.mono {f : FuncId} {As As' : List Fa} {R : Nat → Fa} (h : Spc P f As R) (hs : ∀ w vs, Fa.dens As' w vs → Fa.dens As w vs) : Spc P f As' R :=
  fun w args hd => h w args (hs w args hd)
theorem Nrm.ret1 {fn : Func} {R : Nat → Fa} {w0 : World} {t : Nat} {g : Fa} (hr : fn.results = #[.tmp t]) (hI : ∀ w, I w → Below w0.heap.size w0 w) (hl : look E t = some g)
    (hs : ∀ B, B ≤ w0.heap.size → Sub I g (R B)) : Nrm n I (FnPost P fn R w0 .ret) E := fun _ w h1 h2 h3 =>
  ⟨h2.defers, _, results_tmp hr _ _ _, hI w h1, fun B hB => hs B hB w _ h1 (h3 t g hl)⟩
def Ress (I : World → Prop) (E : Env) : List Nat → List Fa → Prop
  | [], fs => fs = []
  | t :: ts, fs => ∃ g f r, look E t = some g ∧ Sub I g f ∧ fs = f :: r ∧ Ress I E ts r
theorem Ress.nil : Ress I E [] [] := rfl
theorem Ress.cons {t : Nat} {ts : List Nat} {g f : Fa} {r : List Fa} (h : look E t = some g) (hs : Sub I g f) (hr : Ress I E ts r) : Ress I E (t :: ts) (f :: r) := ⟨g, f, r, h, hs, rfl, hr⟩
theorem Ress.dens {a : Act} {w : World} (hI : I w) (hs : Sat E a w) : ∀ {ts : List Nat} {fs : List Fa}, Ress I E ts fs → Fa.dens fs w (ts.map a.slot)
  | [], fs, h => by simp only [Ress] at h; subst h; simp [Fa.dens]
  | t :: ts, fs, h => by
    obtain ⟨g, f, r, h1, h2, rfl, h3⟩ := h
    simp only [Fa.dens, List.map_cons]
    exact ⟨_, _, rfl, h2 w _ hI (hs t g h1), Ress.dens hI hs h3⟩
theorem Nrm.ret2 {fn : Func} {R : Nat → Fa} {w0 : World} {t u : Nat} (hr : fn.results = #[.tmp t, .tmp u]) (hI : ∀ w, I w → Below w0.heap.size w0 w)
    (hs : ∀ B, B ≤ w0.heap.size → ∃ fs, R B = .tup fs ∧ Ress I E [t, u] fs) : Nrm n I (FnPost P fn R w0 .ret) E := fun a w h1 h2 h3 =>
  ⟨h2.defers, _, results_tmp2 hr _ _ _, hI w h1, fun B hB => by
    obtain ⟨fs, he, hrs⟩ := hs B hB
    rw [he]
    simp only [Fa.den]
    exact ⟨_, rfl, hrs.dens h1 h3⟩⟩
theorem Nrm.ret3 {fn : Func} {R : Nat → Fa} {w0 : World} {t u s : Nat} (hr : fn.results = #[.tmp t, .tmp u, .tmp s]) (hI : ∀ w, I w → Below w0.heap.size w0 w)
    (hs : ∀ B, B ≤ w0.heap.size → ∃ fs, R B = .tup fs ∧ Ress I E [t, u, s] fs) : Nrm n I (FnPost P fn R w0 .ret) E := fun a w h1 h2 h3 =>
  ⟨h2.defers, .tuple #[a.slot t, a.slot u, a.slot s], by simp [results, hr, Act.slot], hI w h1, fun B hB => by
    obtain ⟨fs, he, hrs⟩ := hs B hB
    rw [he]
    simp only [Fa.den]
    exact ⟨_, rfl, hrs.dens h1 h3⟩⟩
end
end Go.Free
end
