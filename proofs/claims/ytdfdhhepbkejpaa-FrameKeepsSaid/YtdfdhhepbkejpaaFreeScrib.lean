/-
  Rows of bytes that are written over, whatever they hold; a load of what is known of old memory.
-/
import Derived.Test.YtdfdhhepbkejpaaFreeDeep
import Derived.Test.YtdfdhhepbkejpaaFreeNest
set_option linter.unusedSimpArgs false
set_option linter.unusedVariables false
namespace Go.Free
open Go.RowKit

/-- v is a row of n bytes, alone in its block. -/
def scrOk (w : World) (v : Value) : Prop := v = .slice none 0 0 ∨ ∃ g n cap cur e, v = .slice (some ⟨g, 0, none⟩) n cap ∧ w.heap[g]? = some (.cells cur e (0, 0)) ∧ n ≤ cap ∧ cap ≤ 9223372036854775807 ∧ n ≤ cur.size ∧ ∀ k, k < n → ∃ b : UInt8, cur[k]? = some (.int .u8 b.toNat)
theorem scrOk_own {B e : Nat} {l : List UInt8} {w : World} {v : Value} (h : ownH B e 1 (bs l) w v) : scrOk w v := by
  obtain ⟨_, n, hl, h⟩ := h
  rcases h with ⟨rfl, rfl⟩ | ⟨g, cap, cur, rfl, _, hg, h1, h2, h3, h4⟩
  · exact .inl rfl
  · rw [Nat.mul_one] at hl h3 h4
    refine .inr ⟨g, n, cap, cur, e, rfl, hg, h1, by simpa [maxLen] using h2, by omega, fun k hk => ?_⟩
    have hk' : k < l.length := by rw [bs_length] at hl; omega
    have e1 : (cur.toList.take n)[k]? = (bs l)[k]? := by rw [h4]
    rw [List.getElem?_take_of_lt hk] at e1
    refine ⟨l[k], ?_⟩
    rw [Array.getElem?_toList] at e1
    rw [e1]
    simp [bs, List.getElem?_eq_getElem hk']
def scrC (vs : List Value) : Chunk := ⟨fun w F => (∀ v ∈ vs, scrOk w v) ∧ ∀ b, F b ↔ ∃ v ∈ vs, v.ownBlock = some b,
  fun w F b h hb => by
    obtain ⟨v, hv, hvb⟩ := (h.2 b).1 hb
    rcases h.1 v hv with rfl | ⟨g, n, cap, cur, e, rfl, hg, _⟩
    · cases hvb
    · simp only [Value.ownBlock, Option.some.injEq] at hvb
      subst hvb
      exact (Array.getElem?_eq_some_iff.1 hg).1,
  fun w w' F h hk => ⟨fun v hv => by
    rcases h.1 v hv with rfl | ⟨g, n, cap, cur, e, rfl, hg, h1⟩
    · exact .inl rfl
    · exact .inr ⟨g, n, cap, cur, e, rfl, by rw [hk g ((h.2 g).2 ⟨_, hv, rfl⟩)]; exact hg, h1⟩, h.2⟩⟩
/-- At a place of one row stands b. -/
def scrAt (vs : List Value) (g k : Nat) (b : UInt8) : Chunk := ⟨fun w F => (scrC vs).holds w F ∧ F g ∧ w.cell? ⟨g, k, none⟩ = some (.int .u8 b.toNat) ∧ ∃ n cap, Value.slice (some ⟨g, 0, none⟩) n cap ∈ vs ∧ k < n,
  fun w F c h hc => (scrC vs).lt w F c h.1 hc,
  fun w w' F h hk => ⟨(scrC vs).loc w w' F h.1 hk, h.2.1, by
    have := h.2.2.1
    simp only [World.cell?] at this ⊢
    rw [hk g h.2.1]; exact this, h.2.2.2⟩⟩
theorem scr_see {vs : List Value} {g n cap k : Nat} (hv : Value.slice (some ⟨g, 0, none⟩) n cap ∈ vs) (hk : k < n) : Ent (scrC vs) (exC fun b => scrAt vs g k b) := fun w F h => by
  have hF : F g := (h.2 g).2 ⟨_, hv, rfl⟩
  rcases h.1 _ hv with h0 | ⟨g', n', cap', cur, e, he, hg, h1, h2, h3, h4⟩
  · cases h0
  · cases he
    obtain ⟨b, hb⟩ := h4 k hk
    refine ⟨F, ⟨b, h, hF, ?_, n, cap, hv, hk⟩, fun _ hb => hb⟩
    simp only [World.cell?, hg, Option.isSome_none, Bool.false_eq_true, if_false]
    exact hb
theorem scrAt_reads {vs : List Value} {g k : Nat} {b : UInt8} : (scrAt vs g k b).reads g k [.int .u8 b.toNat] := fun w F h j u hu => by
  cases j with
  | zero => simp only [List.getElem?_cons_zero, Option.some.injEq] at hu; subst hu; exact h.2.2.1
  | succ j => simp at hu
/-- With vs stored from that place on, all else as it was, the chunk is c'. -/
def Chunk.patX (c : Chunk) (β off : Nat) (vs : List Value) (c' : Chunk) : Prop := ∀ w F, c.holds w F → F β ∧ ∃ cur e, w.heap[β]? = some (.cells cur e (0, 0)) ∧ off + vs.length ≤ cur.size ∧
  ∀ w', w'.heap[β]? = some (.cells (cur.toList.take off ++ vs ++ cur.toList.drop (off + vs.length)).toArray e (0, 0)) → (∀ b, b ≠ β → w'.heap[b]? = w.heap[b]?) → c'.holds w' F
theorem scrAt_pat {vs : List Value} {g k : Nat} {b c : UInt8} : (scrAt vs g k b).patX g k [.int .u8 c.toNat] (scrC vs) := fun w F h => by
  obtain ⟨hs, hF, hc, n, cap, hv, hk⟩ := h
  refine ⟨hF, ?_⟩
  rcases hs.1 _ hv with h0 | ⟨g', n', cap', cur, e, he, hg, h1, h2, h3, h4⟩
  · cases h0
  · cases he
    refine ⟨cur, e, hg, by simp; omega, fun w' hw ho => ⟨fun u hu => ?_, hs.2⟩⟩
    rcases hs.1 u hu with rfl | ⟨g2, n2, cap2, cur2, e2, rfl, hg2, k1, k2, k3, k4⟩
    · exact .inl rfl
    · by_cases hgg : g2 = g
      · subst hgg
        rw [hg] at hg2
        cases hg2
        have hset : cur.toList.take k ++ [Value.int .u8 c.toNat] ++ cur.toList.drop (k + [Value.int .u8 (c.toNat : Int)].length) = cur.toList.set k (.int .u8 c.toNat) := by
          rw [List.set_eq_take_append_cons_drop, if_pos (by simp; omega)]; simp
        rw [hset] at hw
        refine .inr ⟨g2, n2, cap2, _, _, rfl, hw, k1, k2, by simpa using k3, fun j hj => ?_⟩
        rw [List.getElem?_toArray, List.getElem?_set]
        by_cases hjk : k = j
        · subst hjk
          rw [if_pos rfl, if_pos (by simp; omega)]
          exact ⟨c, rfl⟩
        · rw [if_neg hjk, Array.getElem?_toList]
          exact k4 j hj
      · exact .inr ⟨g2, n2, cap2, cur2, e2, rfl, by rw [ho g2 hgg]; exact hg2, k1, k2, k3, k4⟩
section
variable {P : Program} {ops : Array Oper} {Q : Exit → Act → World → Prop} {n : Nat} {I : World → Prop} {k i : Nat} {E : Env} {o : Oper} {d : Bool} {A : Nat → Prop} {H : List Chunk} {key : Nat}
/-- A store into a chunk of several blocks. -/
theorem Plan.storeX {t : TypeId} {p x : Operand} {β off q : Nat} {c c' : Chunk} {v : Value} (ho : ops[i]? = some o) (hop : o.op = .store t p x) (hdst : o.dst = none) (hg : wantB ops E o = some true)
    (hp : opF E p = some (.ex (.pointer (some ⟨β, off, none⟩)))) (hx : opF E x = some (.ex v)) (hone : ∀ u ∈ v.cells.toList, u.oneCell' = true) (hi : (P.info? t).map (·.size) = some v.cells.size)
    (hk : look E key = some (heap A H)) (hA : Own I A) (hqH : H[q]? = some c) (hpat : c.patX β off v.cells.toList c')
    (h : Plan P ops Q n I d k (i + 1) ((key, heap A (H.set q c')) :: sieve E)) (hq : d = false ∨ (k = 0 ∧ lastB ops = true) := by first | exact .inl rfl | exact .inr ⟨rfl, by kernel_rfl⟩) : Plan P ops Q n I d (k + 1) i E :=
  Plan.turnRun ho hg (by rw [hdst]; intro _ e; cases e) hk hA (fun a w φ _ _ hs' hL hLA hfr => by
    have e1 := hs' p (by simp [hop, Op.operands]) _ hp
    have e2 := hs' x (by simp [hop, Op.operands]) _ hx
    simp only [Fa.den] at e1 e2
    obtain ⟨hβ, cur, e, hh, hle, hc'⟩ := hpat w (φ q) (hL.holds q c hqH)
    have hst := run_storeCells_at P β off e v.cells.toList 0 cur w hh (by simpa using hle) hone
    simp only [Nat.add_zero] at hst
    obtain ⟨inf, hi1, hi2⟩ : ∃ inf, P.info? t = some inf ∧ inf.size = v.cells.size := by
      cases hinf : P.info? t with
      | none => rw [hinf] at hi; cases hi
      | some inf => rw [hinf] at hi; exact ⟨inf, rfl, by simpa using hi⟩
    obtain ⟨w', hw'⟩ : ∃ w', w' = w.setRow β (cur.toList.take off ++ v.cells.toList ++ cur.toList.drop (off + v.cells.toList.length)).toArray := ⟨_, rfl⟩
    rw [← hw'] at hst
    have hK : Kept (φ q) w w' := by
      subst hw'
      exact ⟨rfl, rfl, rfl, by simp, fun kk _ hkk => setRow_other w β kk _ (fun e => hkk (by rw [e]; exact hβ))⟩
    have hc2 := hc' w' (by subst hw'; exact setRow_heap w β cur _ e _ hh) (fun b hb => by subst hw'; exact setRow_other w β b _ hb)
    have hqlt : q < H.length := (List.getElem?_eq_some_iff.1 hqH).1
    have hL' := hL.upd hqlt hK hc2 (fun b hb => .inl hb)
    refine ⟨undef, w', .ex undef, H.set q c', _, .inr ⟨?_, rfl⟩, hK.mono (fun b _ hb => hLA q b hb), hL', wide (H := H) hLA hfr (fun b hb => .inl hb), by simp [Fa.den], by rw [hdst]; exact h⟩
    simp [execOp, hop, e1, e2, Instr.storeAt, Instr.sureAddr, storeVar, sizeOf, typeInfo, hi1, hi2, hst]) hq
/-- A load of one value that is known to stand there, whatever else was turned. -/
theorem Plan.loadKnown {t : TypeId} {u : TypeDesc} {x : Operand} {ad : Addr} {v : Value} (ho : ops[i]? = some o) (hop : o.op = .load t x) (hg : wantB ops E o = some true)
    (hx : opF E x = some (.ex (.pointer (some ad)))) (hv : ∀ w, I w → w.cell? ad = some v) (hu : P.underlying t = some u) (hna : aggB u = false)
    (h : Plan P ops Q n I d k (i + 1) (setE o.dst (.ex v) E)) : Plan P ops Q n I d (k + 1) i E :=
  Plan.step ho (Step.run ho hg fun a w hI hs' => by
    have e1 := hs' x (by simp [hop, Op.operands]) _ hx
    simp only [Fa.den] at e1
    have hc := hv w hI
    refine ⟨v, w, ?_, Below.refl _ _, by simp [Fa.den]⟩
    have hagg : (isAgg t).run P w = .ok false w := by
      cases u <;> simp [aggB] at hna <;> simp [isAgg, run_underlying hu]
    simp [execOp, hop, e1, Instr.loadAt, Instr.sureAddr, loadVar, hagg, run_load, hc]) h
/-- A heap is laid over what is known of the world. -/
theorem J.lay {c : Code} (key : Nat) (A : Nat → Prop) (H : List Chunk) (hL : ∀ w, I w → ∃ φ, Lies H φ w ∧ ∀ q b, φ q b → A b) (h : J P n I c Q ((key, heap A H) :: E)) : J P n I c Q E := fun a w h1 h2 h3 => by
  refine h a w h1 h2 fun t f hf => ?_
  simp only [look] at hf
  by_cases ht : key = t
  · rw [if_pos ht] at hf; cases hf; exact hL w h1
  · rw [if_neg ht] at hf; exact h3 t f hf
end
theorem ownH_kept {B e sz : Nat} {cs : List Value} {w w' : World} {v : Value} {S : Nat → Prop} (hk : Kept S w w') (hS : ∀ b, S b → b < B) (h : ownH B e sz cs w v) : ownH B e sz cs w' v := by
  obtain ⟨hB, n, hl, h⟩ := h
  refine ⟨Nat.le_trans hB hk.size, n, hl, ?_⟩
  rcases h with h0 | ⟨g, cap, cur, hv, hb, hg, h1⟩
  · exact .inl h0
  · exact .inr ⟨g, cap, cur, hv, hb, by rw [hk.block g (Array.getElem?_eq_some_iff.1 hg).1 (fun hs => absurd (hS g hs) (by omega))]; exact hg, h1⟩
end Go.Free
