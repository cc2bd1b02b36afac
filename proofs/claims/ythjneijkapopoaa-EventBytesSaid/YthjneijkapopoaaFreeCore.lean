/-
  A small logic: facts on slots that old memory keeps, and a region walked in the text order stands for any order that it draws.
-/
import Derived.Orders
import Derived.Below
import Derived.WalkKit
namespace Go.Free
open Go.RowKit

/-- A fact on a value in a world, kept by every step that leaves old blocks as they were. -/
structure Pd where
  holds : World → Value → Prop
  mono : ∀ w w' v, Below w.heap.size w w' → holds w v → holds w' v

inductive Fa where
  | ex (v : Value)
  | is (p : Pd)
  | tup (l : List Fa)
  | old (w0 : World) (f : Fa)

mutual
def Fa.den : Fa → World → Value → Prop
  | .ex v, _, x => x = v
  | .is p, w, x => p.holds w x
  | .tup l, w, x => ∃ xs : List Value, x = .tuple xs.toArray ∧ Fa.dens l w xs
  | .old w0 f, _, x => f.den w0 x
def Fa.dens : List Fa → World → List Value → Prop
  | [], _, xs => xs = []
  | f :: fs, w, xs => ∃ y ys, xs = y :: ys ∧ Fa.den f w y ∧ Fa.dens fs w ys
end

mutual
theorem Fa.mono : ∀ (f : Fa) (w w' : World) (v : Value), Below w.heap.size w w' → f.den w v → f.den w' v
  | .ex _, _, _, _, _, h => by simpa [Fa.den] using h
  | .is p, w, w', v, hb, h => by simp only [Fa.den] at h ⊢; exact p.mono w w' v hb h
  | .tup l, w, w', v, hb, h => by
    simp only [Fa.den] at h ⊢
    obtain ⟨xs, rfl, hx⟩ := h
    exact ⟨xs, rfl, Fa.monos l w w' xs hb hx⟩
  | .old _ _, _, _, _, _, h => by simpa only [Fa.den] using h
theorem Fa.monos : ∀ (l : List Fa) (w w' : World) (xs : List Value), Below w.heap.size w w' → Fa.dens l w xs → Fa.dens l w' xs
  | [], _, _, _, _, h => by simpa [Fa.dens] using h
  | f :: fs, w, w', xs, hb, h => by
    simp only [Fa.dens] at h ⊢
    obtain ⟨y, ys, rfl, h1, h2⟩ := h
    exact ⟨y, ys, rfl, Fa.mono f w w' y hb h1, Fa.monos fs w w' ys hb h2⟩
end

/-- What any value meets. -/
def Fa.any : Fa := .is ⟨fun _ _ => True, fun _ _ _ _ _ => trivial⟩

abbrev Env := List (Nat × Fa)
def look : Env → Nat → Option Fa
  | [], _ => none
  | (s, f) :: r, t => if s = t then some f else look r t
def setE : Option Nat → Fa → Env → Env
  | none, _, E => E
  | some d, f, E => (d, f) :: E

end Go.Free
namespace Go
def Act.slot (a : Act) (t : Nat) : Value := a.tmps.getD t undef
end Go
namespace Go.Free
open Go.RowKit

def Sat (E : Env) (a : Act) (w : World) : Prop := ∀ t f, look E t = some f → f.den w (a.slot t)

def dst (ops : Array Oper) (i : Nat) : Option Nat := (ops[i]?).bind (·.dst)
def looks (ops : Array Oper) (i : Nat) : List Nat := ((ops[i]?).map (·.looksAt ops)).getD []

/-- The shape of the frame: as many slots as there were, nothing deferred. -/
structure Sh (n : Nat) (a : Act) : Prop where
  size : a.tmps.size = n
  defers : a.defers = []

theorem Sh.put {n : Nat} {a : Act} (h : Sh n a) (d : Option Nat) (v : Value) : Sh n (a.put d v) := by
  cases d with
  | none => exact h
  | some d => exact ⟨by simp [Act.put, h.size], by simp [Act.put, h.defers]⟩

theorem slot_put_same {n : Nat} {a : Act} (h : Sh n a) {d : Nat} (hd : d < n) (v : Value) : (a.put (some d) v).slot d = v := by
  have := h.size
  simp [Act.slot, Act.put, this, hd]
theorem slot_put_ne (a : Act) {d t : Nat} (hd : d ≠ t) (v : Value) : (a.put (some d) v).slot t = a.slot t := by
  simp [Act.slot, Act.put, Array.getElem?_setIfInBounds_ne hd]

section
variable (P : Program) (ops : Array Oper) (Q : Exit → Act → World → Prop) (n : Nat) (I : World → Prop)

/-- Operation i, in whatever frame and world meet what is known of the slots that it looks at, leaves a value that meets F, and old memory as it was. -/
def Step (i : Nat) (E : Env) (F : Fa) : Prop :=
  ∀ a w, I w → Sh n a → (∀ t, (t ∈ looks ops i ∨ n ≤ t) → ∀ f, look E t = some f → f.den w (a.slot t)) →
    wpOp P ops Q i (fun a' w' => ∃ v, a' = a.put (dst ops i) v ∧ Below w.heap.size w w' ∧ F.den w' v) a w

/-- Operation i turns memory of the call's own: what is known of the frame behind it is told anew. -/
def Eff (i : Nat) (E : Env) (K : Env → Prop) : Prop :=
  ∀ a w, I w → Sh n a → Sat E a w → wpOp P ops Q i (fun a' w' => ∃ E', K E' ∧ I w' ∧ Sh n a' ∧ Sat E' a' w') a w

/-- All others stand ahead of the last operation. -/
def lastB (ops : Array Oper) : Bool := (List.range (ops.size - 1)).all fun j => ((Region.before ops).getD (ops.size - 1) 0).testBit j

/-- The region in the text's order; where it draws its order (d), no operation turns memory, but one behind all others. -/
def Plan (d : Bool) : Nat → Nat → Env → Prop
  | 0, _, E => ∀ a w, I w → Sh n a → Sat E a w → Q .normal a w
  | k + 1, i, E => (∃ F, Step P ops Q n I i E F ∧ Plan d k (i + 1) (setE (dst ops i) F E)) ∨ ((d = false ∨ (k = 0 ∧ lastB ops = true)) ∧ Eff P ops Q n I i E (fun E' => Plan d k (i + 1) E'))
end

/-! ### Orders -/
def lastW (ops : Array Oper) (t : Nat) : Nat → Option Nat
  | 0 => none
  | k + 1 => if dst ops k = some t then some k else lastW ops t k

def lastL (ops : Array Oper) (listed : Array Bool) (t : Nat) : Nat → Option Nat
  | 0 => none
  | k + 1 => if dst ops k = some t ∧ listed.getD k false = true then some k else lastL ops listed t k

def envAt (ops : Array Oper) (Fs : List Fa) (E : Env) : Nat → Env
  | 0 => E
  | k + 1 => setE (dst ops k) (Fs.getD k Fa.any) (envAt ops Fs E k)

theorem look_envAt (ops : Array Oper) (Fs : List Fa) (E : Env) (t : Nat) : ∀ k, look (envAt ops Fs E k) t = (match lastW ops t k with | some j => some (Fs.getD j Fa.any) | none => look E t)
  | 0 => rfl
  | k + 1 => by
    have ih := look_envAt ops Fs E t k
    unfold envAt lastW
    cases hd : dst ops k with
    | none => simp only [setE]; rw [ih]; simp
    | some d =>
      by_cases h : d = t
      · subst h; simp [setE, look]
      · simp only [setE, look, if_neg h]; rw [ih]; simp [h]

/-- Bit masks of what stands ahead of each operation by its edges, in the long run. -/
def befores (ops : Array Oper) : Array Nat := Region.before ops

def closed (ops : Array Oper) (L : Nat → Prop) : Prop := ∀ j o, ops[j]? = some o → L j → ∀ e ∈ o.after, Region.binds .any e = true → L e.on

theorem getD_push_last {α : Type} (acc : Array α) (x d : α) : (acc.push x).getD acc.size d = x := by simp [Array.getD]
theorem foldl_bits (L : Nat → Prop) (acc : Array Nat) (hacc : ∀ (k : Nat) j, L k → (acc.getD k 0).testBit j = true → L j) :
    ∀ (es : List Edge) (s : Nat), (∀ e ∈ es, Region.binds .any e = true → L e.on) → (∀ j, s.testBit j = true → L j) →
      ∀ j, (es.foldl (fun s e => if Region.binds .any e then s ||| 2 ^ e.on ||| acc.getD e.on 0 else s) s).testBit j = true → L j
  | [], s, _, hs => by simpa using hs
  | e :: es, s, he, hs => by
    simp only [List.foldl_cons]
    refine foldl_bits L acc hacc es _ (fun e' h' => he e' (List.mem_cons_of_mem _ h')) ?_
    intro j hj
    split at hj
    · rename_i hb
      have hon := he e (List.mem_cons_self) hb
      simp only [Nat.testBit_or, Bool.or_eq_true] at hj
      rcases hj with (hj | hj) | hj
      · exact hs j hj
      · rw [Nat.testBit_two_pow] at hj
        simp at hj
        exact hj ▸ hon
      · exact hacc _ j hon hj
    · exact hs j hj

theorem before_closed (ops : Array Oper) (L : Nat → Prop) (hL : closed ops L) (j k : Nat) (hj : L j) (h : ((Region.before ops).getD j 0).testBit k = true) : L k := by
  have key : ∀ (l : List Oper) (acc : Array Nat), (∀ (m : Nat) o, l[m]? = some o → ops[acc.size + m]? = some o) → (∀ (k : Nat) j, L k → (acc.getD k 0).testBit j = true → L j) →
      ∀ (k : Nat) j, L k → ((l.foldl (fun acc o => acc.push (o.after.foldl (fun s e => if Region.binds .any e then s ||| 2 ^ e.on ||| acc.getD e.on 0 else s) 0)) acc).getD k 0).testBit j = true → L j := by
    intro l
    induction l with
    | nil => intro acc _ hacc; simpa using hacc
    | cons o l ih =>
      intro acc hl hacc
      simp only [List.foldl_cons]
      refine ih _ ?_ ?_
      · intro m o' hm
        have := hl (m + 1) o' (by simpa using hm)
        simp only [Array.size_push]
        rw [← this]; congr 1; omega
      · intro k j hk hb
        by_cases hkk : k < acc.size
        · refine hacc k j hk ?_
          rw [← hb]
          simp [Array.getD, hkk, Nat.lt_succ_of_lt hkk, Array.getElem_push_lt hkk]
        · by_cases hke : k = acc.size
          · subst hke
            have ho := hl 0 o (by simp)
            simp only [Nat.add_zero] at ho
            rw [getD_push_last, ← Array.foldl_toList] at hb
            exact foldl_bits L acc hacc _ 0 (fun e he hbd => hL _ o ho hk e (by simpa using he) hbd) (by simp) j hb
          · have : ¬ k < acc.size + 1 := by omega
            simp [Array.getD, this] at hb
  have h0 := key ops.toList #[] (by simp) (by simp)
  unfold Region.before at h
  rw [← Array.foldl_toList] at h
  exact h0 j k hj h

/-- The region's edges lead back; whoever names a slot that another one writes stands in order with it; each slot that is written is there. -/
def tidy (ops : Array Oper) (n : Nat) : Bool :=
  let b := Region.before ops
  (ops.all fun o => match o.op with | .select .. => false | _ => true) &&
  (List.range ops.size).all fun i =>
    (match ops[i]? with
     | none => true
     | some o => o.after.all (fun e => !Region.binds .any e || e.on < i) && (match o.dst with | some d => d < n | none => true)) &&
    (looks ops i ++ (dst ops i).toList).all fun t =>
      (List.range ops.size).all fun j => dst ops j != some t || i == j || (b.getD (max i j) 0).testBit (min i j)

theorem tidy_edges {ops : Array Oper} {n : Nat} (h : tidy ops n = true) {i : Nat} {o : Oper} (ho : ops[i]? = some o) : ∀ e ∈ o.after, Region.binds .any e = true → e.on < i := by
  intro e he hb
  have hlt : i < ops.size := (Array.getElem?_eq_some_iff.1 ho).1
  simp only [tidy, Bool.and_eq_true, List.all_eq_true, List.mem_range] at h
  have h1 := (h.2 i hlt).1
  rw [ho] at h1
  simp only [Bool.and_eq_true] at h1
  have h2 := Array.all_eq_true_iff_forall_mem.1 h1.1 e he
  simpa [hb] using h2
theorem tidy_dst {ops : Array Oper} {n : Nat} (h : tidy ops n = true) {i d : Nat} (hd : dst ops i = some d) : d < n := by
  have hlt : i < ops.size := by
    rcases Nat.lt_or_ge i ops.size with h' | h'
    · exact h'
    · simp [dst, Array.getElem?_eq_none h'] at hd
  simp only [tidy, Bool.and_eq_true, List.all_eq_true, List.mem_range] at h
  have h1 := (h.2 i hlt).1
  have ho : ops[i]? = some ops[i] := Array.getElem?_eq_getElem hlt
  rw [ho] at h1
  simp only [Bool.and_eq_true] at h1
  have hd' : ops[i].dst = some d := by simpa [dst, ho] using hd
  rw [hd'] at h1
  simpa using h1.2
theorem tidy_order {ops : Array Oper} {n : Nat} (h : tidy ops n = true) {i j t : Nat} (hi : i < ops.size) (ht : t ∈ looks ops i ∨ dst ops i = some t) (hj : dst ops j = some t) (hne : i ≠ j) :
    ((Region.before ops).getD (max i j) 0).testBit (min i j) = true := by
  have hjl : j < ops.size := by
    rcases Nat.lt_or_ge j ops.size with h' | h'
    · exact h'
    · simp [dst, Array.getElem?_eq_none h'] at hj
  simp only [tidy, Bool.and_eq_true, List.all_eq_true, List.mem_range] at h
  have h1 := (h.2 i hi).2 t (by
    rcases ht with ht | ht
    · exact List.mem_append_left _ ht
    · exact List.mem_append_right _ (by simp [ht]))  j hjl
  simpa [hj, hne] using h1

structure OInv (ops : Array Oper) (Fs : List Fa) (E : Env) (I : World → Prop) (n : Nat) (listed : Array Bool) (a : Act) (w : World) : Prop where
  size : listed.size = ops.size
  inv : I w
  sh : Sh n a
  closed : closed ops (fun j => listed.getD j false = true)
  sat : ∀ t f, (match lastL ops listed t ops.size with | some j => some (Fs.getD j Fa.any) | none => look E t) = some f → f.den w (a.slot t)

theorem lastL_eq {ops : Array Oper} {listed : Array Bool} {t i : Nat} (hlow : ∀ j, dst ops j = some t → j < i → listed.getD j false = true)
    (hhigh : ∀ j, dst ops j = some t → i ≤ j → listed.getD j false = false) : ∀ k, i ≤ k → lastL ops listed t k = lastW ops t i := by
  have low : ∀ k, k ≤ i → lastL ops listed t k = lastW ops t k := by
    intro k
    induction k with
    | zero => intro _; rfl
    | succ k ih =>
      intro hk
      unfold lastL lastW
      by_cases hd : dst ops k = some t
      · simp [hd, hlow k hd (by omega)]
      · simp [hd, ih (by omega)]
  intro k hk
  induction k with
  | zero =>
    have h0 : i = 0 := by omega
    subst h0
    exact low 0 (Nat.le_refl _)
  | succ k ih =>
    rcases Nat.lt_or_ge k i with h | h
    · obtain rfl : i = k + 1 := by omega
      exact low _ (Nat.le_refl _)
    · unfold lastL
      by_cases hd : dst ops k = some t
      · simp [hhigh k hd h, ih h]
      · simp [hd, ih h]

theorem order_step {ops : Array Oper} {Fs : List Fa} {E : Env} {I : World → Prop} {n : Nat} {listed : Array Bool} {a : Act} {w : World}
    (ht : tidy ops n = true) (h : OInv ops Fs E I n listed a w) {i : Nat} (hr : i ∈ Region.ready .any ops listed) {t : Nat} (hl : t ∈ looks ops i ∨ dst ops i = some t) :
    lastL ops listed t ops.size = lastW ops t i ∧ (∀ j, dst ops j = some t → i ≤ j → listed.getD j false = false) := by
  obtain ⟨hun, o, ho, hall⟩ := mem_ready.1 hr
  have hilt : i < ops.size := (Array.getElem?_eq_some_iff.1 ho).1
  have hun' : listed.getD i false = false := by
    have : i < listed.size := by rw [h.size]; exact hilt
    simpa [Array.getD, this] using hun
  -- all that stands ahead of i is listed
  have hup : ∀ j, ((Region.before ops).getD i 0).testBit j = true → listed.getD j false = true := by
    intro j hj
    have hc : closed ops (fun k => listed.getD k false = true ∨ k = i) := by
      intro k ok hk hL e he hb
      rcases hL with hL | rfl
      · exact .inl (h.closed k ok hk hL e he hb)
      · rw [ho] at hk; cases hk; exact .inl (hall e he hb)
    rcases before_closed ops _ hc i j (.inr rfl) hj with h1 | rfl
    · exact h1
    · -- i stands ahead of itself: not in a tidy region
      exfalso
      have hc2 : closed ops (fun k => k < j) := by
        intro k ok hk hL e he hb
        have := tidy_edges ht hk e he hb
        omega
      have hc3 : closed ops (fun k => k < j ∨ (k = j)) := by
        intro k ok hk hL e he hb
        have := tidy_edges ht hk e he hb
        omega
      -- the mask of i speaks of what its edges lead to alone: all below i
      have key : ∀ m, ((Region.before ops).getD j 0).testBit m = true → m < j := by
        intro m hm
        unfold Region.before at hm
        rw [← Array.foldl_toList] at hm
        have gen : ∀ (l : List Oper) (acc : Array Nat), (∀ (m : Nat) o, l[m]? = some o → ops[acc.size + m]? = some o) → (∀ (k : Nat) m, (acc.getD k 0).testBit m = true → m < k) →
            ∀ (k : Nat) m, ((l.foldl (fun acc o => acc.push (o.after.foldl (fun s e => if Region.binds .any e then s ||| 2 ^ e.on ||| acc.getD e.on 0 else s) 0)) acc).getD k 0).testBit m = true → m < k := by
          intro l
          induction l with
          | nil => intro acc _ hacc; simpa using hacc
          | cons o l ih =>
            intro acc hl hacc
            simp only [List.foldl_cons]
            refine ih _ ?_ ?_
            · intro m o' hm
              have := hl (m + 1) o' (by simpa using hm)
              simp only [Array.size_push]
              rw [← this]; congr 1; omega
            · intro k m hb
              by_cases hkk : k < acc.size
              · refine hacc k m ?_
                rw [← hb]
                simp [Array.getD, hkk, Nat.lt_succ_of_lt hkk, Array.getElem_push_lt hkk]
              · by_cases hke : k = acc.size
                · subst hke
                  have ho := hl 0 o (by simp)
                  simp only [Nat.add_zero] at ho
                  rw [getD_push_last, ← Array.foldl_toList] at hb
                  refine foldl_bits (fun x => x < acc.size) acc (fun k j hk hb => Nat.lt_trans (hacc k j hb) hk) _ 0 (fun e he hbd => tidy_edges ht ho e (by simpa using he) hbd) (by simp) m hb
                · have : ¬ k < acc.size + 1 := by omega
                  simp [Array.getD, this] at hb
        exact gen ops.toList #[] (by simp) (by simp) j m hm
      have := key j hj
      omega
  have hlow : ∀ j, dst ops j = some t → j < i → listed.getD j false = true := by
    intro j hj hji
    have := tidy_order ht hilt hl hj (by omega)
    rw [Nat.max_eq_left (by omega), Nat.min_eq_right (by omega)] at this
    exact hup j this
  have hhigh : ∀ j, dst ops j = some t → i ≤ j → listed.getD j false = false := by
    intro j hj hij
    by_cases he : j = i
    · rw [he]; exact hun'
    · have := tidy_order ht hilt hl hj (by omega)
      rw [Nat.max_eq_right (by omega), Nat.min_eq_left (by omega)] at this
      cases hL : listed.getD j false with
      | false => rfl
      | true =>
        have := before_closed ops _ h.closed j i hL this
        rw [hun'] at this
        cases this
  exact ⟨lastL_eq hlow hhigh ops.size (by omega), hhigh⟩

theorem lastL_none {ops : Array Oper} {listed : Array Bool} {t : Nat} (h : ∀ j, dst ops j ≠ some t) : ∀ {k : Nat}, lastL ops listed t k = none
  | 0 => rfl
  | k + 1 => by unfold lastL; rw [lastL_none h]; simp [h k]
theorem lastW_none {ops : Array Oper} {t : Nat} (h : ∀ j, dst ops j ≠ some t) : ∀ {k : Nat}, lastW ops t k = none
  | 0 => rfl
  | k + 1 => by unfold lastW; rw [lastW_none h]; simp [h k]

theorem getD_set_same {listed : Array Bool} {i : Nat} (h : i < listed.size) : (listed.setIfInBounds i true).getD i false = true := by
  simp [Array.getD, h]

theorem lastL_set_ne {ops : Array Oper} {listed : Array Bool} {i t : Nat} (hne : dst ops i ≠ some t) : ∀ k, lastL ops (listed.setIfInBounds i true) t k = lastL ops listed t k
  | 0 => rfl
  | k + 1 => by
    unfold lastL
    rw [lastL_set_ne hne k]
    by_cases hd : dst ops k = some t
    · have : i ≠ k := fun e => hne (e ▸ hd)
      simp [hd, getD_set_ne false this]
    · simp [hd]

theorem lastL_set_same {ops : Array Oper} {listed : Array Bool} {i t : Nat} (hi : dst ops i = some t) (hl : i < listed.size) (hh : ∀ j, dst ops j = some t → i ≤ j → listed.getD j false = false) :
    ∀ k, i < k → lastL ops (listed.setIfInBounds i true) t k = some i := by
  intro k hk
  induction k with
  | zero => omega
  | succ k ih =>
    unfold lastL
    by_cases he : k = i
    · subst he; simp [hi, getD_set_same hl]
    · have hlt : i < k := by omega
      rw [ih hlt]
      by_cases hd : dst ops k = some t
      · have := hh k hd (by omega)
        simp [hd, getD_set_ne false (Ne.symm he), this]
      · simp [hd]

theorem all_listed {ops : Array Oper} {listed : Array Bool} {n : Nat} (ht : tidy ops n = true) (hs : listed.size = ops.size) (hr : Region.ready .any ops listed = []) :
    ∀ j, j < ops.size → listed.getD j false = true := by
  intro j
  induction j using Nat.strongRecOn with
  | _ j ih =>
    intro hj
    cases hL : listed.getD j false with
    | true => rfl
    | false =>
      exfalso
      have ho : ops[j]? = some ops[j] := Array.getElem?_eq_getElem hj
      have : j ∈ Region.ready .any ops listed := by
        refine mem_ready.2 ⟨?_, ops[j], ho, fun e he hb => ?_⟩
        · have : j < listed.size := by omega
          simpa [Array.getD, this] using hL
        · have := tidy_edges ht ho e he hb
          exact ih e.on this (by omega)
      rw [hr] at this
      cases this

section
variable {P : Program} {ops : Array Oper} {Q : Exit → Act → World → Prop} {n : Nat} {I : World → Prop}

theorem OInv.next {Fs : List Fa} {E : Env} {listed : Array Bool} {a : Act} {w w' : World} (ht : tidy ops n = true) (hI : ∀ w w', I w → Below w.heap.size w w' → I w')
    (h : OInv ops Fs E I n listed a w) {i : Nat} (hr : i ∈ Region.ready .any ops listed) {v : Value} (hb : Below w.heap.size w w') (hF : (Fs.getD i Fa.any).den w' v) :
    OInv ops Fs E I n (listed.setIfInBounds i true) (a.put (dst ops i) v) w' := by
  obtain ⟨hun, o, ho, hall⟩ := mem_ready.1 hr
  have hilt : i < ops.size := (Array.getElem?_eq_some_iff.1 ho).1
  have hil : i < listed.size := by rw [h.size]; exact hilt
  refine ⟨by simp [h.size], hI w w' h.inv hb, h.sh.put _ _, ?_, ?_⟩
  · intro j oj hj hL e he hbd
    by_cases hji : j = i
    · subst hji
      rw [ho] at hj; cases hj
      exact getD_set_true (hall e he hbd)
    · rw [getD_set_ne false (Ne.symm hji)] at hL
      exact getD_set_true (h.closed j oj hj hL e he hbd)
  · intro t f hf
    by_cases hd : dst ops i = some t
    · have h2 := (order_step ht h hr (.inr hd)).2
      rw [lastL_set_same hd hil h2 ops.size hilt] at hf
      simp only [Option.some.injEq] at hf
      subst hf
      rw [hd, slot_put_same h.sh (tidy_dst ht hd)]
      exact hF
    · rw [lastL_set_ne hd] at hf
      have := Fa.mono f w w' _ hb (h.sat t f hf)
      cases hdi : dst ops i with
      | none => exact this
      | some d =>
        rw [slot_put_ne a (by intro e; exact hd (by rw [hdi, e]))]
        exact this

theorem plan_any {Fs : List Fa} {E : Env} (ht : tidy ops n = true) (hI : ∀ w w', I w → Below w.heap.size w w' → I w')
    (hs : ∀ i, i < ops.size → Step P ops Q n I i (envAt ops Fs E i) (Fs.getD i Fa.any))
    (hp : ∀ a w, I w → Sh n a → Sat (envAt ops Fs E ops.size) a w → Q .normal a w) :
    ∀ (fuel : Nat) (listed : Array Bool) (a : Act) (w : World), OInv ops Fs E I n listed a w → ((List.range ops.size).filter fun j => !listed.getD j false).length ≤ fuel →
      wpAny P .any ops Q fuel listed a w := by
  have done : ∀ (listed : Array Bool) (a : Act) (w : World), OInv ops Fs E I n listed a w → Region.ready .any ops listed = [] → Q .normal a w := by
    intro listed a w h hr
    have hall := all_listed ht h.size hr
    refine hp a w h.inv h.sh ?_
    intro t f hf
    rw [look_envAt] at hf
    refine h.sat t f ?_
    rw [lastL_eq (i := ops.size) (fun j _ hj => hall j hj) (fun j hd hj => by simp [dst, Array.getElem?_eq_none hj] at hd) ops.size (Nat.le_refl _)]
    exact hf
  intro fuel
  induction fuel with
  | zero =>
    intro listed a w h hk
    have hr : Region.ready .any ops listed = [] := by
      cases hr : Region.ready .any ops listed with
      | nil => rfl
      | cons i r =>
        exfalso
        have hi : i ∈ Region.ready .any ops listed := by rw [hr]; exact List.mem_cons_self
        obtain ⟨hun, o, ho, _⟩ := mem_ready.1 hi
        have hilt : i < ops.size := (Array.getElem?_eq_some_iff.1 ho).1
        have hil : i < listed.size := by rw [h.size]; exact hilt
        have hun' : listed.getD i false = false := by simpa [Array.getD, hil] using hun
        have hm : i ∈ (List.range ops.size).filter fun j => !listed.getD j false := by
          rw [List.mem_filter]; exact ⟨List.mem_range.2 hilt, by simp only [hun']; rfl⟩
        have := List.length_pos_of_mem hm
        omega
    exact ⟨hr, done listed a w h hr⟩
  | succ fuel ih =>
    intro listed a w h hk
    refine ⟨done listed a w h, fun i hi => ?_⟩
    obtain ⟨hun, o, ho, _⟩ := mem_ready.1 hi
    have hilt : i < ops.size := (Array.getElem?_eq_some_iff.1 ho).1
    have hil : i < listed.size := by rw [h.size]; exact hilt
    have hun' : listed.getD i false = false := by simpa [Array.getD, hil] using hun
    have hstep := hs i hilt a w h.inv h.sh (fun t htm f hf => by
      refine h.sat t f ?_
      rw [look_envAt] at hf
      rcases htm with htm | htm
      · rw [(order_step ht h hi (.inl htm)).1]; exact hf
      · rw [lastL_none (listed := listed) (fun j e => Nat.lt_irrefl _ (Nat.lt_of_lt_of_le (tidy_dst ht e) htm))]
        rw [lastW_none (fun j e => Nat.lt_irrefl _ (Nat.lt_of_lt_of_le (tidy_dst ht e) htm))] at hf
        exact hf)
    refine wpOp_mono ?_ hstep
    rintro a' w' ⟨v, rfl, hb, hF⟩
    refine ih _ _ _ (h.next ht hI hi hb hF) ?_
    have hlt : ((List.range ops.size).filter fun j => !(listed.setIfInBounds i true).getD j false).length < ((List.range ops.size).filter fun j => !listed.getD j false).length := by
      have hsub : ((List.range ops.size).filter fun j => !(listed.setIfInBounds i true).getD j false) = (((List.range ops.size).filter fun j => !listed.getD j false).filter fun j => j != i) := by
        rw [List.filter_filter]
        refine List.filter_congr fun j _ => ?_
        by_cases hji : j = i
        · subst hji; simp [getD_set_same hil]
        · simp [getD_set_ne false (Ne.symm hji), hji]
      rw [hsub]
      refine List.length_filter_lt_length_iff_exists.2 ⟨i, ?_, by simp⟩
      rw [List.mem_filter]; exact ⟨List.mem_range.2 hilt, by simp only [hun']; rfl⟩
    omega

theorem plan_list {E : Env} : ∀ (k i : Nat) (E0 : Env) (Fs : List Fa), Plan P ops Q n I true k i E → Fs.length = i → i + k = ops.size → envAt ops Fs E0 i = E →
    ∃ Gs, (∀ j, i ≤ j → j < i + k → (j + 1 = i + k → ¬ (Eff P ops Q n I j (envAt ops (Fs ++ Gs) E0 j) (fun E' => ∀ a w, I w → Sh n a → Sat E' a w → Q .normal a w) ∧ lastB ops = true)) → Step P ops Q n I j (envAt ops (Fs ++ Gs) E0 j) ((Fs ++ Gs).getD j Fa.any)) ∧
      ((0 < k ∧ Eff P ops Q n I (i + k - 1) (envAt ops (Fs ++ Gs) E0 (i + k - 1)) (fun E' => ∀ a w, I w → Sh n a → Sat E' a w → Q .normal a w) ∧ lastB ops = true) ∨
       ((∀ j, i ≤ j → j < i + k → Step P ops Q n I j (envAt ops (Fs ++ Gs) E0 j) ((Fs ++ Gs).getD j Fa.any)) ∧ ∀ a w, I w → Sh n a → Sat (envAt ops (Fs ++ Gs) E0 (i + k)) a w → Q .normal a w)) := by
  have same : ∀ (E0 : Env) (Fs Gs : List Fa) j, j ≤ Fs.length → envAt ops (Fs ++ Gs) E0 j = envAt ops Fs E0 j := by
    intro E0 Fs Gs j
    induction j with
    | zero => intro _; rfl
    | succ j ihj =>
      intro hj
      unfold envAt
      rw [ihj (by omega)]
      congr 1
      simp [List.getD_eq_getElem?_getD, List.getElem?_append_left (show j < Fs.length by omega)]
  intro k
  induction k generalizing E with
  | zero =>
    intro i E0 Fs h hl hsz hE
    refine ⟨[], fun j h1 h2 => by omega, .inr ⟨fun j h1 h2 => by omega, ?_⟩⟩
    simp only [List.append_nil, Nat.add_zero, hE]
    exact h
  | succ k ih =>
    intro i E0 Fs h hl hsz hE
    rcases h with ⟨F, hst, hp⟩ | ⟨hd, heff⟩
    · have hE1 : envAt ops (Fs ++ [F]) E0 (i + 1) = setE (dst ops i) F E := by
        unfold envAt
        rw [same E0 Fs [F] i (by omega), hE]
        congr 1
        simp [List.getD_eq_getElem?_getD, ← hl]
      obtain ⟨Gs, h1, h2⟩ := ih (i + 1) E0 (Fs ++ [F]) hp (by simp [hl]) (by omega) hE1
      have hi : Step P ops Q n I i (envAt ops (Fs ++ F :: Gs) E0 i) ((Fs ++ F :: Gs).getD i Fa.any) := by
        rw [same E0 Fs (F :: Gs) i (by omega), hE]
        have : (Fs ++ F :: Gs).getD i Fa.any = F := by simp [List.getD_eq_getElem?_getD, ← hl]
        rw [this]; exact hst
      simp only [List.append_assoc, List.singleton_append] at h1 h2
      have ek : i + 1 + k = i + (k + 1) := by omega
      rw [ek] at h1 h2
      refine ⟨F :: Gs, ?_, ?_⟩
      · intro j hj1 hj2 hno
        by_cases he : j = i
        · subst he; exact hi
        · exact h1 j (by omega) hj2 hno
      · rcases h2 with ⟨hk, h2⟩ | ⟨h2, h3⟩
        · exact .inl ⟨by omega, h2⟩
        · refine .inr ⟨fun j hj1 hj2 => ?_, h3⟩
          by_cases he : j = i
          · subst he; exact hi
          · exact h2 j (by omega) hj2
    · obtain ⟨rfl, hlast⟩ := hd.resolve_left (by simp)
      refine ⟨[], ?_, .inl ⟨by omega, ?_, hlast⟩⟩
      · intro j hj1 hj2 hno
        obtain rfl : j = i := by omega
        refine absurd ⟨?_, hlast⟩ (hno (by omega))
        rw [List.append_nil, hE]; exact heff
      · rw [List.append_nil, show i + (0 + 1) - 1 = i by omega, hE]; exact heff

/-- The last operation turns memory; all others stand ahead of it. -/
theorem plan_tail {Fs : List Fa} {E : Env} (ht : tidy ops n = true) (hI : ∀ w w', I w → Below w.heap.size w w' → I w') (hpos : 0 < ops.size) (hlast : lastB ops = true)
    (hs : ∀ i, i + 1 < ops.size → Step P ops Q n I i (envAt ops Fs E i) (Fs.getD i Fa.any))
    (heff : Eff P ops Q n I (ops.size - 1) (envAt ops Fs E (ops.size - 1)) (fun E' => ∀ a w, I w → Sh n a → Sat E' a w → Q .normal a w)) :
    ∀ (fuel : Nat) (listed : Array Bool) (a : Act) (w : World), OInv ops Fs E I n listed a w → listed.getD (ops.size - 1) false = false → ((List.range ops.size).filter fun j => !listed.getD j false).length ≤ fuel →
      wpAny P .any ops Q fuel listed a w := by
  have notall : ∀ (listed : Array Bool), listed.size = ops.size → listed.getD (ops.size - 1) false = false → Region.ready .any ops listed ≠ [] := by
    intro listed h hun hr
    have := all_listed ht h hr (ops.size - 1) (by omega)
    rw [hun] at this; cases this
  intro fuel
  induction fuel with
  | zero =>
    intro listed a w h hun hk
    exfalso
    have hm : ops.size - 1 ∈ (List.range ops.size).filter fun j => !listed.getD j false := by
      rw [List.mem_filter]; exact ⟨List.mem_range.2 (by omega), by simp only [hun]; rfl⟩
    have := List.length_pos_of_mem hm
    omega
  | succ fuel ih =>
    intro listed a w h hun hk
    refine ⟨fun hr => absurd hr (notall listed h.size hun), fun i hi => ?_⟩
    obtain ⟨hunl, o, ho, hall⟩ := mem_ready.1 hi
    have hilt : i < ops.size := (Array.getElem?_eq_some_iff.1 ho).1
    have hil : i < listed.size := by rw [h.size]; exact hilt
    have hun' : listed.getD i false = false := by simpa [Array.getD, hil] using hunl
    by_cases hil2 : i = ops.size - 1
    · subst hil2
      -- all others are listed
      have hothers : ∀ j, j < ops.size - 1 → listed.getD j false = true := by
        intro j hj
        have hbit : ((Region.before ops).getD (ops.size - 1) 0).testBit j = true := by
          have := hlast
          simp only [lastB, List.all_eq_true, List.mem_range] at this
          exact this j hj
        have hc : closed ops (fun k => listed.getD k false = true ∨ k = ops.size - 1) := by
          intro k ok hk hL e he hb
          rcases hL with hL | rfl
          · exact .inl (h.closed k ok hk hL e he hb)
          · rw [ho] at hk; cases hk; exact .inl (hall e he hb)
        rcases before_closed ops _ hc (ops.size - 1) j (.inr rfl) hbit with h1 | h1
        · exact h1
        · omega
      have hsat : Sat (envAt ops Fs E (ops.size - 1)) a w := by
        intro t f hf
        rw [look_envAt] at hf
        refine h.sat t f ?_
        rw [lastL_eq (i := ops.size - 1) (fun j _ hj => hothers j hj) (fun j hd hj => by
          by_cases he : j = ops.size - 1
          · rw [he]; exact hun
          · have : ops.size ≤ j := by omega
            simp [dst, Array.getElem?_eq_none this] at hd) ops.size (by omega)]
        exact hf
      refine wpOp_mono ?_ (heff a w h.inv h.sh hsat)
      rintro a' w' ⟨E', hp, h1, h2, h3⟩
      refine wpAny_done ?_ (hp a' w' h1 h2 h3) fuel
      cases hr : Region.ready .any ops (listed.setIfInBounds (ops.size - 1) true) with
      | nil => rfl
      | cons j r =>
        exfalso
        have hj : j ∈ Region.ready .any ops (listed.setIfInBounds (ops.size - 1) true) := by rw [hr]; exact List.mem_cons_self
        obtain ⟨hju, oj, hoj, _⟩ := mem_ready.1 hj
        have hjlt : j < ops.size := (Array.getElem?_eq_some_iff.1 hoj).1
        have hju' : (listed.setIfInBounds (ops.size - 1) true).getD j false = false := by
          have : j < (listed.setIfInBounds (ops.size - 1) true).size := by simp [h.size]; exact hjlt
          simp only [Array.getD, this, dite_true] at hju ⊢
          exact hju
        by_cases he : j = ops.size - 1
        · rw [he, getD_set_same hil] at hju'; cases hju'
        · rw [getD_set_ne false (Ne.symm he), hothers j (by omega)] at hju'; cases hju'
    · have hstep := hs i (by omega) a w h.inv h.sh (fun t htm f hf => by
        refine h.sat t f ?_
        rw [look_envAt] at hf
        rcases htm with htm | htm
        · rw [(order_step ht h hi (.inl htm)).1]; exact hf
        · rw [lastL_none (listed := listed) (fun j e => Nat.lt_irrefl _ (Nat.lt_of_lt_of_le (tidy_dst ht e) htm))]
          rw [lastW_none (fun j e => Nat.lt_irrefl _ (Nat.lt_of_lt_of_le (tidy_dst ht e) htm))] at hf
          exact hf)
      refine wpOp_mono ?_ hstep
      rintro a' w' ⟨v, rfl, hb, hF⟩
      refine ih _ _ _ (h.next ht hI hi hb hF) (by rw [getD_set_ne false hil2]; exact hun) ?_
      have hlt : ((List.range ops.size).filter fun j => !(listed.setIfInBounds i true).getD j false).length < ((List.range ops.size).filter fun j => !listed.getD j false).length := by
        have hsub : ((List.range ops.size).filter fun j => !(listed.setIfInBounds i true).getD j false) = (((List.range ops.size).filter fun j => !listed.getD j false).filter fun j => j != i) := by
          rw [List.filter_filter]
          refine List.filter_congr fun j _ => ?_
          by_cases hji : j = i
          · subst hji; simp [getD_set_same hil]
          · simp [getD_set_ne false (Ne.symm hji), hji]
        rw [hsub]
        refine List.length_filter_lt_length_iff_exists.2 ⟨i, ?_, by simp⟩
        rw [List.mem_filter]; exact ⟨List.mem_range.2 hilt, by simp only [hun']; rfl⟩
      omega

theorem Sat.step {E : Env} {a : Act} {w w' : World} {i : Nat} {v : Value} {F : Fa} (ht : tidy ops n = true) (hsh : Sh n a) (hs : Sat E a w) (hb : Below w.heap.size w w') (hF : F.den w' v) :
    Sat (setE (dst ops i) F E) (a.put (dst ops i) v) w' := by
  intro t f hf
  cases hd : dst ops i with
  | none => rw [hd] at hf; exact Fa.mono f w w' _ hb (hs t f hf)
  | some d =>
    rw [hd] at hf
    simp only [setE, look] at hf
    by_cases hdt : d = t
    · subst hdt
      simp only [if_true, Option.some.injEq] at hf
      subst hf
      rw [slot_put_same hsh (tidy_dst ht hd)]
      exact hF
    · rw [if_neg hdt] at hf
      rw [slot_put_ne a hdt]
      exact Fa.mono f w w' _ hb (hs t f hf)

theorem plan_text (ht : tidy ops n = true) (hI : ∀ w w', I w → Below w.heap.size w w' → I w') : ∀ (k i : Nat) (E : Env) (a : Act) (w : World), Plan P ops Q n I false k i E → i + k = ops.size → I w → Sh n a → Sat E a w →
    wpOps P ops Q (List.range' i k) a w := by
  intro k
  induction k with
  | zero => intro i E a w h _ hIw hsh hs; exact h a w hIw hsh hs
  | succ k ih =>
    intro i E a w h hi hIw hsh hs
    rw [List.range'_succ, wpOps_cons]
    rcases h with ⟨F, hst, hp⟩ | ⟨_, heff⟩
    · refine wpOp_mono ?_ (hst a w hIw hsh (fun t _ f hf => hs t f hf))
      rintro a' w' ⟨v, rfl, hb, hF⟩
      exact ih (i + 1) _ _ _ hp (by omega) (hI _ _ hIw hb) (hsh.put _ _) (hs.step ht hsh hb hF)
    · refine wpOp_mono ?_ (heff a w hIw hsh hs)
      rintro a' w' ⟨E', hp, h1, h2, h3⟩
      exact ih (i + 1) _ _ _ hp (by omega) h1 h2 h3

/-- **A region, drawn or not, walked in the text's order.** -/
theorem wp_region_plan {id : Nat} {draw : Bool} {E : Env} {a : Act} {w : World} (hm : P.follows .mixedOrders = true) (ht : tidy ops n = true) (hI : ∀ w w', I w → Below w.heap.size w w' → I w')
    (hw : I w) (ha : Sh n a) (hE : Sat E a w) (h : Plan P ops Q n I draw ops.size 0 E) : (Code.region id ops draw).wp P Q a w := by
  cases draw with
  | true =>
    obtain ⟨Gs, h1, h2⟩ := plan_list (E := E) ops.size 0 E [] h rfl (by omega) rfl
    simp only [List.nil_append, Nat.zero_add] at h1 h2
    refine wp_region_any hm ?_
    have hb0 : Below w.heap.size w { w with drawn := w.drawn + 1 } := (Below.refl _ _).drew
    have hinv : OInv ops Gs E I n (Array.replicate ops.size false) a { w with drawn := w.drawn + 1 } := by
      refine ⟨by simp, hI _ _ hw hb0, ha, ?_, ?_⟩
      · intro j o hj hL
        exfalso
        have hlt : j < ops.size := (Array.getElem?_eq_some_iff.1 hj).1
        simp [Array.getD, hlt] at hL
      · intro t f hf
        have hn : ∀ k, lastL ops (Array.replicate ops.size false) t k = none := by
          intro k
          induction k with
          | zero => rfl
          | succ k ih =>
            unfold lastL
            have : (Array.replicate ops.size false).getD k false = false := by
              simp [Array.getD]
            simp [this, ih]
        rw [hn] at hf
        exact Fa.mono f w _ _ hb0 (hE t f hf)
    have hlen : ((List.range ops.size).filter fun j => !(Array.replicate ops.size false).getD j false).length ≤ ops.size := by
      have := List.length_filter_le (fun j => !(Array.replicate ops.size false).getD j false) (List.range ops.size)
      simpa using this
    rcases h2 with ⟨hpos, heff, hlast⟩ | ⟨h2, h3⟩
    · refine plan_tail ht hI hpos hlast (fun i hi => h1 i (Nat.zero_le _) (by omega) (fun e => by omega)) heff ops.size _ a _ hinv ?_ hlen
      simp [Array.getD]
    · exact plan_any ht hI (fun i hi => h2 i (Nat.zero_le _) hi) h3 ops.size _ a _ hinv hlen
  | false =>
    refine wp_region ?_
    rw [List.range_eq_range']
    exact plan_text ht hI ops.size 0 E a w h (by omega) hw ha hE
end
end Go.Free
