/-
  Memory that is turned: the bytes of a text, written in place; what is new against the heap that was.
-/
import Derived.Test.YtkhcjedlopiicaaFreeHeap5
set_option linter.unusedSimpArgs false
set_option linter.unusedVariables false
set_option maxRecDepth 20000
namespace Go.Free
open Go.RowKit

/-- n bytes, written in place, not appended to: the row may be marked behind its end. -/
def wHolds (e g n cap : Nat) (xs : List Value) (w : World) : Prop := ∃ cur fz, w.heap[g]? = some (.cells cur e fz) ∧ cur.size ≤ fz.1 ∧ xs.length = n ∧ n ≤ cap ∧ cap ≤ 9223372036854775807 ∧ n ≤ cur.size ∧ cur.toList.take n = xs
def wrow (e g n cap : Nat) (xs : List Value) : Chunk := ⟨fun w F => wHolds e g n cap xs w ∧ ∀ b, F b ↔ b = g,
  fun _ _ b ⟨⟨_, _, h, _⟩, hF⟩ hb => by rw [(hF b).1 hb]; exact (Array.getElem?_eq_some_iff.1 h).1,
  fun _ _ _ ⟨⟨cur, fz, h, r⟩, hF⟩ hk => ⟨⟨cur, fz, (hk g ((hF g).2 rfl)).trans h, r⟩, hF⟩⟩
def ownW (B e : Nat) (xs : List Value) : Fa := .is ⟨fun w v => ∃ g cap, v = .slice (some ⟨g, 0, none⟩) xs.length cap ∧ B ≤ g ∧ wHolds e g xs.length cap xs w,
  fun _ _ _ hb ⟨g, cap, hv, hB, cur, fz, h, r⟩ => ⟨g, cap, hv, hB, cur, fz, (hb.block g (Array.getElem?_eq_some_iff.1 h).1).trans h, r⟩⟩

theorem wcell {e g n cap j : Nat} {xs : List Value} {w : World} {u : Value} (h : wHolds e g n cap xs w) (hu : xs[j]? = some u) : w.cell? ⟨g, j, none⟩ = some u := by
  obtain ⟨cur, fz, hh, _, hl, _, _, _, ht⟩ := h
  simp only [World.cell?, hh, Option.isSome_none, Bool.false_eq_true, if_false]
  rw [← ht, List.getElem?_take] at hu
  split at hu
  · simpa using hu
  · cases hu
theorem wrow_reads1 {e g n cap off : Nat} {xs : List Value} {u : Value} (h : xs[off]? = some u) : (wrow e g n cap xs).reads g off [u] := fun w F ⟨hh, _⟩ j v hv => by
  cases j with
  | zero => simp only [List.getElem?_cons_zero, Option.some.injEq] at hv; subst hv; exact wcell hh h
  | succ j => simp at hv
theorem wrow_rowH {e g n cap : Nat} {xs : List Value} {w : World} (h : wHolds e g n cap xs w) : rowH 1 xs w (.slice (some ⟨g, 0, none⟩) n cap) := by
  obtain ⟨cur, fz, hh, h0, hl, hc, hcM, hs, ht⟩ := id h
  exact ⟨_, _, _, rfl, hc, hcM, by omega, (fun h => by cases h), fun j u hu => ⟨_, rfl, by rw [add_at, Nat.zero_add]; exact wcell h hu⟩⟩
theorem Ent.wCut {e g n m cap : Nat} {xs : List Value} (hm : m ≤ n) : Ent (wrow e g n cap xs) (wrow e g m cap (xs.take m)) := fun w F ⟨⟨cur, fz, hh, h0, hl, hc, hcM, hs, ht⟩, hF⟩ =>
  ⟨F, ⟨⟨cur, fz, hh, h0, by rw [List.length_take]; omega, by omega, hcM, by omega, by rw [← ht, List.take_take, Nat.min_eq_left hm]⟩, hF⟩, fun _ hb => hb⟩
theorem Ent.wEq {e g n cap : Nat} {xs ys : List Value} (h : xs = ys) : Ent (wrow e g n cap xs) (wrow e g n cap ys) := h ▸ Ent.refl _
theorem w_fact {e g n cap : Nat} {xs : List Value} {w : World} {F : Nat → Prop} (h : (wrow e g n cap xs).holds w F) : xs.length = n ∧ n ≤ cap ∧ cap ≤ 9223372036854775807 := by
  obtain ⟨⟨cur, fz, hh, h0, hl, hc, hcM, hs, ht⟩, hF⟩ := h
  exact ⟨hl, hc, hcM⟩

section
variable {P : Program} {ops : Array Oper} {Q : Exit → Act → World → Prop} {n : Nat} {I : World → Prop} {k i : Nat} {E : Env} {o : Oper} {d : Bool} {A : Nat → Prop} {H : List Chunk} {key : Nat}

/-- From here on what is made is new against the heap. -/
theorem J.fresh {c : Code} (hk : look E key = some (heap A H)) (hA : Own I A) (h : ∀ B, (∀ b, B ≤ b → A b) → J P n (fun w => I w ∧ B ≤ w.heap.size) c Q ((key, heap (fun b => A b ∧ b < B) H) :: E)) : J P n I c Q E := fun a w h1 h2 h3 => by
  obtain ⟨φ, hL, hLA⟩ := h3 key _ hk
  exact h w.heap.size (hA.fresh w h1) a w ⟨h1, Nat.le_refl _⟩ h2 (heap_put h3 hL (fun q b hb => ⟨hLA q b hb, hL.lt hb⟩))
theorem J.idle {c : Code} {I' : World → Prop} (hI : ∀ w, I w → I' w) (h : J P n I' c Q E) : J P n I c Q E := fun a w h1 h2 h3 => h a w (hI w h1) h2 h3
theorem hFresh {B : Nat} (hI : ∀ w w', I w → Below w.heap.size w w' → I w') : ∀ w w', (I w ∧ B ≤ w.heap.size) → Below w.heap.size w w' → (I w' ∧ B ≤ w'.heap.size) := fun _ _ h hb => ⟨hI _ _ h.1 hb, Nat.le_trans h.2 hb.size⟩

theorem Plan.convSBW {st dt e : TypeId} {x : Operand} {p : List UInt8} {B : Nat} (ho : ops[i]? = some o) (hop : o.op = .convert st dt x) (hg : wantB ops E o = some true)
    (hx : opF E x = some (.ex (str p))) (hsrc : P.underlying st = some .string) (hdst : P.underlying dt = some (.slice e)) (he : P.underlying e = some (.int .u8)) (hp : p.length ≤ 9223372036854775807) (hB : ∀ w, I w → B ≤ w.heap.size)
    (h : Plan P ops Q n I d k (i + 1) (setE o.dst (ownW B e (bs p)) E)) : Plan P ops Q n I d (k + 1) i E :=
  Plan.step ho (Step.run ho hg fun a w hI hs => by
    have h1 := hs x (by simp [hop, Op.operands]) _ hx
    simp only [Fa.den, str] at h1
    have hr := Lib.run_convert_string_bytes (P := P) w st dt e ⟨p.toArray⟩ hsrc hdst he
    have hsz : (ByteArray.mk p.toArray).size = p.length := by simp [ByteArray.size]
    refine ⟨.slice (some ⟨w.heap.size, 0, none⟩) (ByteArray.mk p.toArray).size (grownCap w (ByteArray.mk p.toArray).size 0 e), Lib.bytesWorld w e ⟨p.toArray⟩, ?_, ⟨rfl, rfl, rfl, by rw [Lib.bytesWorld_size]; omega, fun j hj => Lib.bytesWorld_at_old w e _ j hj⟩, ?_⟩
    · simp only [execOp, hop, h1, Sem.run_bind, hr, Result.andThen_ok, Sem.run_pure]
    · refine ⟨w.heap.size, _, by rw [bs_length, hsz], hB w hI, _, _, Lib.bytesWorld_at_new w e _, Nat.le_refl _, rfl, ?_, ?_, ?_, ?_⟩
      · rw [bs_length]; exact Nat.le_trans (Nat.le_of_eq hsz.symm) (grownCap_ge _ _ _ _)
      · have := grownCap_le_maxLen w (ByteArray.mk p.toArray).size 0 e (by rw [hsz]; simpa [maxLen] using hp)
        rw [hsz] at this
        simpa [maxLen] using this
      · rw [bs_length]; simp [Lib.bytesCells]
      · simp [Lib.bytesCells, bs, List.take_append]) h

theorem J.takeW {c : Code} {t B e : Nat} {xs : List Value} {f : Fa} (hf : look E t = some f) (hs : Sub I f (ownW B e xs)) (hk : look E key = some (heap (fun b => A b ∧ b < B) H)) (hA : ∀ b, B ≤ b → A b)
    (h : ∀ g cap, J P n I c Q ((t, .ex (.slice (some ⟨g, 0, none⟩) xs.length cap)) :: (key, heap A (H ++ [wrow e g xs.length cap xs])) :: E)) : J P n I c Q E := fun a w h1 h2 h3 => by
  obtain ⟨φ, hL, hLA⟩ := h3 key _ hk
  obtain ⟨g, cap, hv, hB, hw⟩ := hs w _ h1 (h3 t f hf)
  refine h g cap a w h1 h2 (derive_sat (heap_put h3 (φ := fun p b => if p = H.length then b = g else φ p b) ?_ ?_) (by simp [Fa.den, hv]))
  · refine ⟨fun p c hp => ?_, fun p p' b hp hp' => ?_, fun p b hp => ?_⟩
    · by_cases he : p = H.length
      · subst he
        simp only [List.getElem?_concat_length, Option.some.injEq] at hp
        subst hp
        simp only [if_true]
        exact ⟨hw, fun _ => Iff.rfl⟩
      · have hl : p < (H ++ [wrow e g xs.length cap xs]).length := (List.getElem?_eq_some_iff.1 hp).1
        have hl' : p < H.length := by simp at hl; omega
        rw [List.getElem?_append_left hl'] at hp
        simp only [if_neg he]
        exact hL.holds p c hp
    · by_cases he : p = H.length
      · by_cases he' : p' = H.length
        · rw [he, he']
        · simp only [if_pos he] at hp
          simp only [if_neg he'] at hp'
          have h6 := (hLA p' b hp').2
          omega
      · by_cases he' : p' = H.length
        · simp only [if_neg he] at hp
          simp only [if_pos he'] at hp'
          have h6 := (hLA p b hp).2
          omega
        · simp only [if_neg he] at hp
          simp only [if_neg he'] at hp'
          exact hL.apart p p' b hp hp'
    · rw [List.length_append]
      by_cases he : p = H.length
      · simp [he]
      · simp only [if_neg he] at hp
        have := hL.bound p b hp
        simp; omega
  · intro q b hb
    by_cases he : q = H.length
    · simp only [if_pos he] at hb
      exact hA b (by omega)
    · simp only [if_neg he] at hb
      exact (hLA q b hb).1

/-- A store of one value into such bytes. -/
theorem Plan.storeW {t : TypeId} {p x : Operand} {e g m cap off q : Nat} {xs : List Value} {v : Value} (ho : ops[i]? = some o) (hop : o.op = .store t p x) (hdst : o.dst = none) (hg : wantB ops E o = some true)
    (hp : opF E p = some (.ex (.pointer (some ⟨g, off, none⟩)))) (hx : opF E x = some (.ex v)) (hone : v.oneCell' = true) (hc1 : v.cells = #[v]) (hi : (P.info? t).map (·.size) = some 1)
    (hk : look E key = some (heap A H)) (hA : Own I A) (hqH : H[q]? = some (wrow e g m cap xs)) (hoff : off < xs.length)
    (h : Plan P ops Q n I d k (i + 1) ((key, heap A (H.set q (wrow e g m cap (xs.set off v)))) :: sieve E)) (hq : d = false ∨ barB ops i = true := by first | exact .inl rfl | exact .inr (by kernel_rfl)) : Plan P ops Q n I d (k + 1) i E :=
  Plan.turnRun ho hg (by rw [hdst]; intro _ e; cases e) hk hA (fun a w φ _ _ hs' hL hLA hfr => by
    have e1 := hs' p (by simp [hop, Op.operands]) _ hp
    have e2 := hs' x (by simp [hop, Op.operands]) _ hx
    simp only [Fa.den] at e1 e2
    obtain ⟨hw, hF⟩ := hL.holds q _ hqH
    have hcell := wcell hw (List.getElem?_eq_getElem hoff)
    obtain ⟨cur, fz, hh, h0, hl, hc, hcM, hs, ht⟩ := hw
    have hfr0 : w.frozen? ⟨g, off, none⟩ = false := by
      simp only [World.frozen?, hh]
      have : ¬ fz.1 ≤ off := by omega
      simp [this]
    obtain ⟨inf, hi1, hi2⟩ : ∃ inf, P.info? t = some inf ∧ inf.size = 1 := by
      cases hinf : P.info? t with
      | none => rw [hinf] at hi; cases hi
      | some inf => rw [hinf] at hi; exact ⟨inf, rfl, by simpa using hi⟩
    have hlt : g < w.heap.size := (Array.getElem?_eq_some_iff.1 hh).1
    have hh' : (w.setCell ⟨g, off, none⟩ v).heap[g]? = some (.cells (cur.setIfInBounds off v) e fz) := by
      simp only [World.setCell, Array.getElem?_modify, if_true, hh, Option.map_some]
      rfl
    have hK : Kept (φ q) w (w.setCell ⟨g, off, none⟩ v) :=
      ⟨rfl, rfl, rfl, by simp [World.setCell], fun kk _ hkk => Below.heap_setCell _ _ _ _ (fun e => hkk (by rw [e]; exact (hF g).2 rfl))⟩
    have hc2 : (wrow e g m cap (xs.set off v)).holds (w.setCell ⟨g, off, none⟩ v) (φ q) := by
      refine ⟨⟨_, fz, hh', by simpa using h0, by simp [hl], hc, hcM, by simpa using hs, ?_⟩, hF⟩
      rw [← ht, Array.toList_setIfInBounds, List.take_set]
    have hqlt : q < H.length := (List.getElem?_eq_some_iff.1 hqH).1
    have hL' := hL.upd hqlt hK hc2 (fun b hb => .inl hb)
    refine ⟨undef, w.setCell ⟨g, off, none⟩ v, .ex undef, _, _, .inr ⟨?_, rfl⟩, hK.mono (fun b _ hb => hLA q b hb), hL', wide (H := H) hLA hfr (fun b hb => .inl hb), by simp [Fa.den], by rw [hdst]; exact h⟩
    have hst := run_store P w ⟨g, off, none⟩ v .plain hone
    simp only [hcell, hfr0] at hst
    simp [execOp, hop, e1, e2, Instr.storeAt, Instr.sureAddr, storeVar, hc1, sizeOf, typeInfo, hi1, hi2, storeCells, Addr.add, hst]) hq

/-- string(bytes) of bytes that lie in a chunk. -/
theorem Plan.convBSC {st dt e : TypeId} {x : Operand} {v : Value} {c : Chunk} {q : Nat} {p : List UInt8} (ho : ops[i]? = some o) (hop : o.op = .convert st dt x) (hg : wantB ops E o = some true)
    (hx : opF E x = some (.ex v)) (hk : look E key = some (heap A H)) (hqH : H[q]? = some c) (hr : ∀ w F, c.holds w F → rowH 1 (bs p) w v) (hsrc : P.underlying st = some (.slice e)) (hdst : P.underlying dt = some .string) (he : P.underlying e = some (.int .u8)) (hkn : n ≤ key)
    (h : Plan P ops Q n I d k (i + 1) (setE o.dst (.ex (str p)) E)) : Plan P ops Q n I d (k + 1) i E :=
  Plan.step ho (Step.runK ho hg fun a w hI hs' hK => by
    have h1 := hs' x (by simp [hop, Op.operands]) _ hx
    simp only [Fa.den] at h1
    obtain ⟨φ, hL, _⟩ := hK key hkn _ hk
    have h2 := hr w _ (hL.holds q _ hqH)
    refine ⟨str p, w, ?_, Below.refl _ _, by simp [Fa.den]⟩
    simp only [execOp, hop, h1, Sem.run_bind, run_bytes_row hsrc he hdst h2, Result.andThen_ok, Sem.run_pure]) h
/-- A slot's slice, of which a chunk has the contents. -/
theorem Plan.seeC {t sz q : Nat} {v : Value} {c : Chunk} {xs : List Value} (ht : tidy ops n = true) (hI : ∀ w w', I w → Below w.heap.size w w' → I w') (hv : look E t = some (.ex v)) (hk : look E key = some (heap A H)) (hqH : H[q]? = some c) (hr : ∀ w F, c.holds w F → rowH sz xs w v)
    (h : Plan P ops Q n I false k i ((t, row sz xs) :: E)) : Plan P ops Q n I false k i E := Plan.ghost ht hI fun a w h1 h3 => by
  obtain ⟨φ, hL, _⟩ := h3 key _ hk
  have e1 := h3 t _ hv
  simp only [Fa.den] at e1
  exact ⟨_, derive_sat h3 (by rw [e1]; exact hr w _ (hL.holds q _ hqH)), h⟩
end
end Go.Free
