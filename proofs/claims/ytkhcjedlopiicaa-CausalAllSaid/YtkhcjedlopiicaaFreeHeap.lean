/-
  Memory that is turned: chunks of the heap apart from one another, loads and stores, calls that turn a chunk.
-/
import Derived.Test.YtkhcjedlopiicaaFreeMore2
set_option linter.unusedSimpArgs false
set_option linter.unusedVariables false
set_option maxRecDepth 20000
namespace Go.Free
open Go.RowKit

/-- A piece of memory: what holds of it where it lies in the blocks F. -/
structure Chunk where
  holds : World → (Nat → Prop) → Prop
  lt : ∀ w F b, holds w F → F b → b < w.heap.size
  loc : ∀ w w' F, holds w F → (∀ b, F b → w'.heap[b]? = w.heap[b]?) → holds w' F

structure Lies (H : List Chunk) (φ : Nat → Nat → Prop) (w : World) : Prop where
  holds : ∀ (q : Nat) (c : Chunk), H[q]? = some c → c.holds w (φ q)
  apart : ∀ p q b, φ p b → φ q b → p = q
  bound : ∀ q b, φ q b → q < H.length

/-- All blocks that were there are as they were, but those of S. -/
structure Kept (S : Nat → Prop) (w w' : World) : Prop where
  os : w'.os = w.os
  tape : w'.tape = w.tape
  output : w'.output = w.output
  size : w.heap.size ≤ w'.heap.size
  block : ∀ k, k < w.heap.size → ¬ S k → w'.heap[k]? = w.heap[k]?

theorem Kept.refl (S : Nat → Prop) (w : World) : Kept S w w := ⟨rfl, rfl, rfl, Nat.le_refl _, fun _ _ _ => rfl⟩
theorem Kept.trans {S T U : Nat → Prop} {a b c : World} (h : Kept S a b) (k : Kept T b c) (hS : ∀ i, i < a.heap.size → S i → U i) (hT : ∀ i, i < a.heap.size → T i → U i) : Kept U a c :=
  ⟨k.os.trans h.os, k.tape.trans h.tape, k.output.trans h.output, Nat.le_trans h.size k.size, fun i hi hn => (k.block i (Nat.lt_of_lt_of_le hi h.size) (fun e => hn (hT i hi e))).trans (h.block i hi fun e => hn (hS i hi e))⟩
theorem Kept.ofBelow {S : Nat → Prop} {w w' : World} (h : Below w.heap.size w w') : Kept S w w' := ⟨h.os, h.tape, h.output, h.size, fun k hk _ => h.block k hk⟩
theorem Kept.ofGrown {w w' : World} {r : Option Nat} (h : w.grownBy w' r) : Kept (fun b => r = some b) w w' := ⟨h.os, h.tape, h.output, h.size, fun k hk hn => h.block k hk (fun e => hn e.symm)⟩
theorem Kept.mono {S T : Nat → Prop} {w w' : World} (h : Kept S w w') (hS : ∀ b, b < w.heap.size → S b → T b) : Kept T w w' := ⟨h.os, h.tape, h.output, h.size, fun k hk hn => h.block k hk (fun e => hn (hS k hk e))⟩
theorem Kept.below {w w' : World} {S : Nat → Prop} (h : Kept S w w') (hS : ∀ b, b < w.heap.size → ¬ S b) : Below w.heap.size w w' := ⟨h.os, h.tape, h.output, h.size, fun k hk => h.block k hk (hS k hk)⟩

theorem Chunk.keep (c : Chunk) {S : Nat → Prop} {w w' : World} {F : Nat → Prop} (h : c.holds w F) (hk : Kept S w w') (hS : ∀ b, F b → ¬ S b) : c.holds w' F :=
  c.loc w w' F h fun b hb => hk.block b (c.lt w F b h hb) (hS b hb)
theorem Lies.lt {H : List Chunk} {φ : Nat → Nat → Prop} {w : World} (h : Lies H φ w) {q b : Nat} (hb : φ q b) : b < w.heap.size :=
  (H[q]'(h.bound q b hb)).lt w (φ q) b (h.holds q _ (List.getElem?_eq_getElem (h.bound q b hb))) hb
theorem Lies.keep {H : List Chunk} {φ : Nat → Nat → Prop} {S : Nat → Prop} {w w' : World} (h : Lies H φ w) (hk : Kept S w w') (hS : ∀ q b, φ q b → ¬ S b) : Lies H φ w' :=
  ⟨fun q c hq => c.keep (h.holds q c hq) hk (hS q), h.apart, h.bound⟩

/-- One chunk is turned. -/
theorem Lies.upd {H : List Chunk} {φ : Nat → Nat → Prop} {w w' : World} {q : Nat} {c' : Chunk} {F : Nat → Prop} (h : Lies H φ w) (hq : q < H.length) (hk : Kept (φ q) w w') (hc : c'.holds w' F)
    (hF : ∀ b, F b → φ q b ∨ w.heap.size ≤ b) : Lies (H.set q c') (fun p b => if p = q then F b else φ p b) w' := by
  refine ⟨fun p (c : Chunk) hp => ?_, fun p p' b hp hp' => ?_, fun p b hp => ?_⟩
  · by_cases he : p = q
    · subst he
      rw [List.getElem?_set_self hq] at hp
      cases hp
      simpa using hc
    · rw [List.getElem?_set_ne (Ne.symm he)] at hp
      simp only [if_neg he]
      exact c.keep (h.holds p c hp) hk fun b h1 h2 => he (h.apart p q b h1 h2)
  · by_cases he : p = q
    · by_cases he' : p' = q
      · rw [he, he']
      · simp only [if_pos he] at hp
        simp only [if_neg he'] at hp'
        rcases hF b hp with h1 | h1
        · exact absurd (h.apart _ _ b hp' h1) he'
        · exact absurd (h.lt hp') (by omega)
    · by_cases he' : p' = q
      · simp only [if_neg he] at hp
        simp only [if_pos he'] at hp'
        rcases hF b hp' with h1 | h1
        · exact absurd (h.apart _ _ b hp h1) he
        · exact absurd (h.lt hp) (by omega)
      · simp only [if_neg he] at hp
        simp only [if_neg he'] at hp'
        exact h.apart p p' b hp hp'
  · rw [List.length_set]
    by_cases he : p = q
    · rw [he]; exact hq
    · simp only [if_neg he] at hp
      exact h.bound p b hp

/-- One chunk more. -/
theorem Lies.add {H : List Chunk} {φ : Nat → Nat → Prop} {w w' : World} {c' : Chunk} {F : Nat → Prop} (h : Lies H φ w) (hk : Below w.heap.size w w') (hc : c'.holds w' F) (hF : ∀ b, F b → w.heap.size ≤ b) :
    Lies (H ++ [c']) (fun p b => if p = H.length then F b else φ p b) w' := by
  refine ⟨fun p (c : Chunk) hp => ?_, fun p p' b hp hp' => ?_, fun p b hp => ?_⟩
  · by_cases he : p = H.length
    · subst he
      simp only [List.getElem?_concat_length, Option.some.injEq] at hp
      subst hp
      simpa using hc
    · have hl : p < (H ++ [c']).length := (List.getElem?_eq_some_iff.1 hp).1
      have hl' : p < H.length := by simp at hl; omega
      rw [List.getElem?_append_left hl'] at hp
      simp only [if_neg he]
      exact c.keep (S := fun _ => False) (h.holds p c hp) (.ofBelow hk) fun _ _ e => e
  · by_cases he : p = H.length
    · by_cases he' : p' = H.length
      · rw [he, he']
      · simp only [if_pos he] at hp
        simp only [if_neg he'] at hp'
        have h1 := h.lt hp'
        have h2 := hF b hp
        omega
    · by_cases he' : p' = H.length
      · simp only [if_neg he] at hp
        simp only [if_pos he'] at hp'
        have h1 := h.lt hp
        have h2 := hF b hp'
        omega
      · simp only [if_neg he] at hp
        simp only [if_neg he'] at hp'
        exact h.apart p p' b hp hp'
  · rw [List.length_append]
    by_cases he : p = H.length
    · simp [he]
    · simp only [if_neg he] at hp
      have := h.bound p b hp
      simp; omega

/-- The heap, told under a key beyond the slots: its chunks, all within A. -/
def heap (A : Nat → Prop) (H : List Chunk) : Fa := .is ⟨fun w _ => ∃ φ, Lies H φ w ∧ ∀ q b, φ q b → A b,
  fun _ _ _ hb ⟨φ, h, ha⟩ => ⟨φ, h.keep (S := fun _ => False) (.ofBelow hb) (fun _ _ _ e => e), ha⟩⟩

/-- What is known of the world holds on where memory of A alone is turned; what is new is of A. -/
structure Own (I : World → Prop) (A : Nat → Prop) : Prop where
  fresh : ∀ w, I w → ∀ b, w.heap.size ≤ b → A b
  turn : ∀ w w', I w → Kept A w w' → I w'

theorem Own.below (w0 : World) : Own (fun w => Below w0.heap.size w0 w) (fun b => w0.heap.size ≤ b) :=
  ⟨fun _ h b hb => Nat.le_trans h.size hb, fun w w' h hk => h.trans ⟨hk.os, hk.tape, hk.output, hk.size, fun k hkk => hk.block k (Nat.lt_of_lt_of_le hkk h.size) (by omega)⟩⟩
theorem Own.kept (S : Nat → Prop) (w0 : World) : Own (fun w => Kept S w0 w) (fun b => S b ∨ w0.heap.size ≤ b) :=
  ⟨fun _ h b hb => .inr (Nat.le_trans h.size hb), fun w w' h hk => h.trans hk (fun _ _ h => h) (fun i hi h => h.resolve_right (by omega))⟩
theorem kept_below (S : Nat → Prop) (w0 : World) : ∀ w w', Kept S w0 w → Below w.heap.size w w' → Kept S w0 w' := fun w w' h hb => h.trans (.ofBelow (S := fun _ => False) hb) (fun _ _ h => h) (fun _ _ h => h.elim)

/-! ### Chunks -/
def emp : Chunk := ⟨fun _ F => ∀ b, ¬ F b, fun _ _ b h hb => (h b hb).elim, fun _ _ _ h _ => h⟩
/-- A struct, or a single value, alone in its block. -/
def obj (β : Nat) (cs : List Value) : Chunk := ⟨fun w F => (∃ e, w.heap[β]? = some (.cells cs.toArray e (0, 0))) ∧ ∀ b, F b ↔ b = β,
  fun _ _ b ⟨⟨_, h⟩, hF⟩ hb => by rw [(hF b).1 hb]; exact (Array.getElem?_eq_some_iff.1 h).1,
  fun _ _ _ ⟨⟨e, h⟩, hF⟩ hk => ⟨⟨e, (hk β ((hF β).2 rfl)).trans h⟩, hF⟩⟩
/-- A row of n elements of sz cells each, with nothing else in its block but spare room. -/
def rowC (e sz : Nat) (A : Option Addr) (n cap : Nat) (xs : List Value) : Chunk := ⟨fun w F => w.ownsRow 0 e sz (.slice A n cap) n xs ∧ ∀ b, F b ↔ (Value.slice A n cap).ownBlock = some b,
  fun _ _ b ⟨h, hF⟩ hb => (h.lt b ((hF b).1 hb)).2,
  fun w w' F ⟨h, hF⟩ hk => ⟨by
    refine ⟨h.1, ?_⟩
    rcases h.2 with h0 | ⟨g, cp, cur, hv, hb, hh, r⟩
    · exact .inl h0
    · exact .inr ⟨g, cp, cur, hv, hb, (hk g ((hF g).2 (by rw [hv]; rfl))).trans hh, r⟩, hF⟩⟩
def exC {X : Type} (c : X → Chunk) : Chunk := ⟨fun w F => ∃ x, (c x).holds w F, fun w F b ⟨x, h⟩ hb => (c x).lt w F b h hb, fun w w' F ⟨x, h⟩ hk => ⟨x, (c x).loc w w' F h hk⟩⟩
def sepC (c d : Chunk) : Chunk := ⟨fun w F => ∃ G K, (∀ b, F b ↔ G b ∨ K b) ∧ (∀ b, G b → K b → False) ∧ c.holds w G ∧ d.holds w K,
  fun w F b ⟨G, K, h1, _, h3, h4⟩ hb => ((h1 b).1 hb).elim (c.lt w G b h3) (d.lt w K b h4),
  fun w w' F ⟨G, K, h1, h2, h3, h4⟩ hk => ⟨G, K, h1, h2, c.loc w w' G h3 (fun b hb => hk b ((h1 b).2 (.inl hb))), d.loc w w' K h4 (fun b hb => hk b ((h1 b).2 (.inr hb)))⟩⟩
/-- A chunk, of which something is known besides. -/
def purC (p : Prop) (c : Chunk) : Chunk := ⟨fun w F => p ∧ c.holds w F, fun w F b h hb => c.lt w F b h.2 hb, fun w w' F h hk => ⟨h.1, c.loc w w' F h.2 hk⟩⟩

abbrev ptr (β : Nat) : Value := .pointer (some ⟨β, 0, none⟩)

theorem add_at (β o j : Nat) : (⟨β, o, none⟩ : Addr).add j = ⟨β, o + j, none⟩ := by unfold Addr.add; split <;> simp_all

/-- The chunk's cells read us from that place on. -/
def Chunk.reads (c : Chunk) (β off : Nat) (us : List Value) : Prop := ∀ w F, c.holds w F → ∀ j u, us[j]? = some u → w.cell? ⟨β, off + j, none⟩ = some u
theorem obj_reads {β off : Nat} {cs us : List Value} (h : (cs.drop off).take us.length = us) : (obj β cs).reads β off us := fun w F ⟨⟨e, hh⟩, _⟩ j u hu => by
  simp only [World.cell?, hh, Option.isSome_none, Bool.false_eq_true, if_false, List.getElem?_toArray]
  have hj : j < us.length := (List.getElem?_eq_some_iff.1 hu).1
  rw [← h, List.getElem?_take, if_pos hj, List.getElem?_drop] at hu
  exact hu
theorem obj_reads1 {β off : Nat} {cs : List Value} {u : Value} (h : cs[off]? = some u) : (obj β cs).reads β off [u] := obj_reads (by
  obtain ⟨hl, rfl⟩ := List.getElem?_eq_some_iff.1 h
  rw [List.length_singleton, List.drop_eq_getElem_cons hl]; rfl)
theorem row_reads {e sz β n cap off : Nat} {xs us : List Value} (h : (xs.drop off).take us.length = us) : (rowC e sz (some ⟨β, 0, none⟩) n cap xs).reads β off us := fun w F ⟨hh, _⟩ j u hu => by
  have hj : j < us.length := (List.getElem?_eq_some_iff.1 hu).1
  rw [← h, List.getElem?_take, if_pos hj, List.getElem?_drop] at hu
  have := hh.cells (g := β) rfl (off + j) u hu
  rw [add_at] at this
  simpa using this
theorem row_reads1 {e sz β n cap off : Nat} {xs : List Value} {u : Value} (h : xs[off]? = some u) : (rowC e sz (some ⟨β, 0, none⟩) n cap xs).reads β off [u] := row_reads (by
  obtain ⟨hl, rfl⟩ := List.getElem?_eq_some_iff.1 h
  rw [List.length_singleton, List.drop_eq_getElem_cons hl]; rfl)

/-- With vs stored from that place on the chunk is c'. -/
def Chunk.pat (c : Chunk) (β off : Nat) (vs : List Value) (c' : Chunk) : Prop := ∀ w F, c.holds w F → F β ∧ ∃ cur e, w.heap[β]? = some (.cells cur e (0, 0)) ∧ off + vs.length ≤ cur.size ∧
  ∀ w', w'.heap[β]? = some (.cells (cur.toList.take off ++ vs ++ cur.toList.drop (off + vs.length)).toArray e (0, 0)) → c'.holds w' F
theorem obj_pat {β off : Nat} {cs vs : List Value} (h : off + vs.length ≤ cs.length) : (obj β cs).pat β off vs (obj β (cs.take off ++ vs ++ cs.drop (off + vs.length))) := fun w F ⟨⟨e, hh⟩, hF⟩ =>
  ⟨(hF β).2 rfl, cs.toArray, e, hh, by simpa using h, fun w' hw => ⟨⟨e, by simpa using hw⟩, hF⟩⟩
theorem obj_pat1 {β off : Nat} {cs : List Value} {v : Value} (h : off < cs.length) : (obj β cs).pat β off [v] (obj β (cs.set off v)) := by
  have e : cs.set off v = cs.take off ++ [v] ++ cs.drop (off + [v].length) := by
    rw [List.set_eq_take_append_cons_drop, if_pos h]; simp
  rw [e]
  exact obj_pat (by simp only [List.length_singleton]; omega)
theorem row_pat {e sz β n cap off : Nat} {xs vs : List Value} (h : off + vs.length ≤ xs.length) : (rowC e sz (some ⟨β, 0, none⟩) n cap xs).pat β off vs (rowC e sz (some ⟨β, 0, none⟩) n cap (xs.take off ++ vs ++ xs.drop (off + vs.length))) := fun w F ⟨hh, hF⟩ => by
  refine ⟨(hF β).2 rfl, ?_⟩
  rcases hh.2 with ⟨h0, _⟩ | ⟨g, cp, cur, hv, hb, hg, h1, h2, h3, h4⟩
  · simp at h0
  · cases hv
    have hlen := hh.1
    have hle : n * sz ≤ cur.size := by rw [h3]; exact Nat.mul_le_mul_right _ h1
    refine ⟨cur, e, hg, by omega, fun w' hw => ⟨⟨by simp; omega, .inr ⟨β, cap, _, rfl, Nat.zero_le _, hw, h1, h2, by simp; omega, ?_⟩⟩, hF⟩⟩
    rw [← h4] at h ⊢
    have hk : off + vs.length ≤ n * sz := by rw [List.length_take] at h; omega
    rw [List.take_append, List.take_append, List.take_take, List.drop_take]
    have l1 : (cur.toList.take off).length = off := by rw [List.length_take, Array.length_toList]; omega
    rw [List.length_append, l1, List.take_take, Nat.min_eq_right (by omega), Nat.min_eq_left (show off ≤ n * sz by omega), List.take_of_length_le (show vs.length ≤ n * sz - off by omega)]
theorem row_pat1 {e sz β n cap off : Nat} {xs : List Value} {v : Value} (h : off < xs.length) : (rowC e sz (some ⟨β, 0, none⟩) n cap xs).pat β off [v] (rowC e sz (some ⟨β, 0, none⟩) n cap (xs.set off v)) := by
  have e : xs.set off v = xs.take off ++ [v] ++ xs.drop (off + [v].length) := by
    rw [List.set_eq_take_append_cons_drop, if_pos h]; simp
  rw [e]
  exact row_pat (by simp only [List.length_singleton]; omega)
end Go.Free
