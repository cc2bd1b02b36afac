/-
  Events: an event's bytes tell that event, and no other bytes do.
-/
import Derived.Test.YthjneijkapopoaaEvDec
set_option linter.unusedSimpArgs false
set_option linter.unusedVariables false
set_option maxRecDepth 20000
namespace Go.Proofs.Ythjneijkapopoaa
open Go.Free Go.RowKit Go.Proofs
set_option maxHeartbeats 4000000

theorem encNs_le {e : EvV} (h : rightP e) : ∀ x ∈ encNs e, 0 ≤ x ∧ x ≤ 4611686018427387904 := by
  obtain ⟨⟨h1, h2, h3, h4⟩, h5, h6, h7, -⟩ := h
  intro x hx
  simp only [encNs, List.mem_cons, List.not_mem_nil, or_false] at hx
  have hd : ∀ i, i < 16 → 0 ≤ e.d i ∧ e.d i ≤ 4611686018427387904 := fun i hi => by have := h7 i hi; omega
  rcases hx with rfl | rfl | rfl | rfl | rfl | rfl | rfl | rfl | rfl | rfl | rfl | rfl | rfl | rfl | rfl | rfl | rfl | rfl | rfl
  · omega
  · omega
  · omega
  all_goals exact hd _ (by decide)
theorem ref_le {e : EvV} (h : rightP e) : (0 ≤ e.rr ∧ e.rr ≤ 4611686018427387904) ∧ 0 ≤ e.rn ∧ e.rn ≤ 4611686018427387904 := by
  obtain ⟨-, -, -, -, -, -, h⟩ := h
  rcases h with ⟨⟨h1, h2, h3, h4⟩, _⟩ | ⟨_, h1, h2⟩
  · omega
  · omega
theorem cut4 {e : EvV} {l r : List UInt8} (h : l = encB e ++ r) : ∃ r', l = encB4 e ++ r' := by
  unfold encB at h; split at h
  · exact ⟨_, by rw [h, List.append_assoc, List.append_assoc]⟩
  · exact ⟨_, h⟩
theorem cut3 {e : EvV} {l r : List UInt8} (h : l = encB4 e ++ r) : ∃ r', l = encB3 e ++ r' := by
  unfold encB4 at h; split at h
  · exact ⟨_, by rw [h, List.append_assoc]⟩
  · exact ⟨_, h⟩
theorem cut2 {e : EvV} {l r : List UInt8} (h : l = encB3 e ++ r) : ∃ r', l = encB2 e ++ r' := by
  unfold encB3 at h; split at h
  · exact ⟨_, by rw [h, List.append_assoc]⟩
  · exact ⟨_, h⟩
theorem cut1 {e : EvV} {l r : List UInt8} (h : l = encB2 e ++ r) : ∃ r', l = encB1 e ++ r' := by
  unfold encB2 at h; split at h
  · exact ⟨_, by rw [h, List.append_assoc]⟩
  · exact ⟨_, h⟩
theorem cut0 {e : EvV} {l r : List UInt8} (h : l = encB1 e ++ r) : ∃ r', l = nums (encNs e) ++ numI e.kind ++ r' := ⟨_, by rw [h, encB1, List.append_assoc]⟩

theorem dec_mid {e : EvV} (hr : rightP e) {l r : List UInt8} (h : l = encB e ++ r) : (decV l).enc = e.enc ∧ decS l = ((encB e).length, 0) := by
  have hs := encNs_le hr
  have hok := enc_okE hr
  obtain ⟨r4, h4⟩ := cut4 h
  obtain ⟨r3, h3⟩ := cut3 h4
  obtain ⟨r2, h2⟩ := cut2 h3
  obtain ⟨r1, h1⟩ := cut1 h2
  obtain ⟨r0, h0⟩ := cut0 h1
  have hN : l = nums (encNs e) ++ (numI e.kind ++ r0) := by rw [h0, List.append_assoc]
  have s19 : nS l 19 = ((nums (encNs e)).length, 0) := by
    have := nums_mid hs hN 19 (Nat.le_of_eq rfl)
    rw [this, List.take_of_length_le (show (encNs e).length ≤ 19 from Nat.le_refl 19)]
  have hv : ∀ k, k < 19 → nV l k = (encNs e).getD k 0 := fun k hk => nums_val hs hN hk
  have lk := hok.kind
  have hk := rNum_mid (a := nums (encNs e)) (x := e.kind) (by omega) (by omega) h0
  have eK : oK l (nS l 19) = e.kind := by show (rNum l (nS l 19)).1 = _; rw [s19, hk]
  have e1 : oS1 l (nS l 19) = ((nums (encNs e) ++ numI e.kind).length, 0) := by
    unfold oS1; rw [eK, s19, hk]; unfold kindS
    rw [if_neg (fun hh => hh.2 hok.kind)]
  have eKey : oKey l (nS l 19) = (e.key, ((encB1 e).length, 0)) := by
    unfold oKey; rw [e1, rText_mid (a := nums (encNs e) ++ numI e.kind) (t := e.key) (r := r1) hok.key h1]; rfl
  have eField : oField l (nS l 19) = (e.field, ((encB2 e).length, 0)) := by
    unfold oField; rw [eK, eKey]; unfold encB2 at h2 ⊢
    split at h2
    · rename_i g
      rw [if_pos g, if_pos g]
      exact rText_mid hok.field h2
    · rename_i g
      rw [if_neg g, if_neg g]
      have : e.field = [] := by
        obtain ⟨-, -, -, -, -, ⟨-, -, -, -, -, -, -, hc, -⟩, -⟩ := hr
        exact hc.resolve_left g
      rw [this]
  have eValue : oValue l (nS l 19) = (e.value, ((encB3 e).length, 0)) := by
    unfold oValue; rw [eK, eField]; unfold encB3 at h3 ⊢
    split at h3
    · rename_i g
      rw [if_pos g, if_pos g]
      exact rText_mid hok.value h3
    · rename_i g
      rw [if_neg g, if_neg g]
      have : e.value = [] := by
        obtain ⟨-, -, -, -, -, ⟨-, -, -, -, -, -, -, -, hc, -⟩, -⟩ := hr
        exact hc.resolve_left g
      rw [this]
  have eNum : oNum l (nS l 19) = (e.num, ((encB4 e).length, 0)) := by
    unfold oNum; rw [eK, eValue]; unfold encB4 at h4 ⊢
    split at h4
    · rename_i g
      rw [if_pos g, if_pos g]
      exact rSig_mid hok.num h4
    · rename_i g
      rw [if_neg g, if_neg g]
      have : e.num = 0 := by
        obtain ⟨-, -, -, -, -, ⟨-, -, -, -, -, -, -, -, -, hc, -⟩, -⟩ := hr
        exact hc.resolve_left g
      rw [this]
  have hlr := ref_le hr
  have eRR : oRR l (nS l 19) = (e.rr, ((if refP e.kind then encB4 e ++ numI e.rr else encB4 e).length, 0)) := by
    unfold oRR; rw [eK, eNum]; unfold encB at h
    split at h
    · rename_i g
      rw [if_pos g, if_pos g]
      exact rNum_mid hlr.1.1 hlr.1.2 (r := numI e.rn ++ r) (by rw [h, List.append_assoc])
    · rename_i g
      rw [if_neg g, if_neg g]
      have : e.rr = 0 := by
        obtain ⟨-, -, -, -, -, ⟨-, -, -, -, -, -, -, -, -, -, hc⟩, -⟩ := hr
        exact (hc.resolve_left g).1
      rw [this]
  have eRN : oRN l (nS l 19) = (e.rn, ((encB e).length, 0)) := by
    unfold oRN; rw [eK, eRR]; unfold encB at h ⊢
    split at h
    · rename_i g
      rw [if_pos g, if_pos g, if_pos g]
      exact rNum_mid hlr.2.1 hlr.2.2 h
    · rename_i g
      rw [if_neg g, if_neg g, if_neg g]
      have : e.rn = 0 := by
        obtain ⟨-, -, -, -, -, ⟨-, -, -, -, -, -, -, -, -, -, hc⟩, -⟩ := hr
        exact (hc.resolve_left g).2
      rw [this]
  refine ⟨?_, by unfold decS; rw [eRN]⟩
  unfold decV decW EvV.enc
  simp only [eK, eKey, eField, eValue, eNum, eRR, eRN, hv _ (show 0 < 19 by decide), hv _ (show 1 < 19 by decide), hv _ (show 2 < 19 by decide)]
  simp only [hv (3 + 0) (by decide), hv (3 + 1) (by decide), hv (3 + 2) (by decide), hv (3 + 3) (by decide), hv (3 + 4) (by decide), hv (3 + 5) (by decide), hv (3 + 6) (by decide), hv (3 + 7) (by decide), hv (3 + 8) (by decide), hv (3 + 9) (by decide), hv (3 + 10) (by decide), hv (3 + 11) (by decide), hv (3 + 12) (by decide), hv (3 + 13) (by decide), hv (3 + 14) (by decide), hv (3 + 15) (by decide)]
  rfl

/-! ### One -/
theorem zig_zag {u : Nat} : zig (zag u) = u := by unfold zag zig; split <;> split <;> omega
theorem take_more {l : List UInt8} {p q : Nat} (h : p ≤ q) : l.take q = l.take p ++ (l.take q).drop p := by
  have := List.take_append_drop p (l.take q)
  rw [List.take_take, Nat.min_eq_left h] at this
  exact this.symm
theorem rNum_one {l : List UInt8} {s : RS} (h : (rNum l s).2.2 = 0) : s.2 = 0 ∧ l.take (rNum l s).2.1 = l.take s.1 ++ numI (rNum l s).1 := by
  unfold rNum at h ⊢
  split at h
  · exact absurd h (by assumption)
  · rename_i g
    rw [if_neg g]
    split at h
    · exact absurd h (by assumption)
    · rename_i g1
      rw [if_neg g1]
      split at h
      · exact absurd h (by simp)
      · rename_i g2
        rw [if_neg g2]
        have g1' : (vTake l s.1).2.2 = 0 := by simpa using g1
        have k := vTake_one l s.1 g1'
        have hb := (vTake_bd l s.1).2.2.2.1 g1'
        rw [Int.toNat_natCast] at k
        refine ⟨by simpa using g, ?_⟩
        show l.take (vTake l s.1).2.1 = l.take s.1 ++ num ((vTake l s.1).1 : Int).toNat
        rw [Int.toNat_natCast, k]
        exact take_more (by omega)
theorem rSig_one {l : List UInt8} {s : RS} (h : (rSig l s).2.2 = 0) : s.2 = 0 ∧ l.take (rSig l s).2.1 = l.take s.1 ++ num (zig (rSig l s).1) := by
  unfold rSig at h ⊢
  split at h
  · exact absurd h (by assumption)
  · rename_i g
    rw [if_neg g]
    have g1' : (vTake l s.1).2.2 = 0 := h
    have k := vTake_one l s.1 g1'
    have hb := (vTake_bd l s.1).2.2.2.1 g1'
    rw [Int.toNat_natCast] at k
    refine ⟨by simpa using g, ?_⟩
    show l.take (vTake l s.1).2.1 = l.take s.1 ++ num (zig (zag (vTake l s.1).1))
    rw [zig_zag, k]
    exact take_more (by omega)
theorem rText_one {l : List UInt8} {s : RS} (h : (rText l s).2.2 = 0) : s.2 = 0 ∧ l.take (rText l s).2.1 = l.take s.1 ++ txt (rText l s).1 := by
  unfold rText at h ⊢
  split at h
  · exact absurd h (by assumption)
  · rename_i g
    rw [if_neg g]
    refine ⟨by simpa using g, ?_⟩
    have h' : (vText l s.1 64).2.2 = 0 := h
    show l.take (vText l s.1 64).2.1 = l.take s.1 ++ txt (vText l s.1 64).1
    unfold vText at h' ⊢
    rw [if_neg (by decide)] at h' ⊢
    split at h'
    · exact absurd h' (by assumption)
    · rename_i g1
      rw [if_neg g1]
      split at h'
      · exact absurd h' (by simp)
      · rename_i g2
        rw [if_neg g2]
        split at h'
        · exact absurd h' (by simp)
        · rename_i g3
          rw [if_neg g3]
          have g1' : (vTake l s.1).2.2 = 0 := by simpa using g1
          have k := vTake_one l s.1 g1'
          have hb := (vTake_bd l s.1).2.2.2.1 g1'
          rw [Int.toNat_natCast] at k
          have hlen : ((l.drop (vTake l s.1).2.1).take (vTake l s.1).1).length = (vTake l s.1).1 := by
            rw [List.length_take, List.length_drop]; omega
          show l.take ((vTake l s.1).2.1 + (vTake l s.1).1) = l.take s.1 ++ (num ((l.drop (vTake l s.1).2.1).take (vTake l s.1).1).length ++ (l.drop (vTake l s.1).2.1).take (vTake l s.1).1)
          rw [hlen, k, List.take_add, ← List.append_assoc, ← take_more (by omega)]
theorem nums_one {l : List UInt8} : ∀ {k : Nat}, (nS l k).2 = 0 → l.take (nS l k).1 = nums ((List.range k).map (nV l))
  | 0, _ => by simp [nS, nums]
  | k + 1, h => by
    have h1 := rNum_one (l := l) (s := nS l k) h
    have ih := nums_one h1.1
    show l.take (rNum l (nS l k)).2.1 = _
    rw [h1.2, ih, List.range_succ, List.map_append]
    simp only [nums, List.flatMap_append, List.map_cons, List.map_nil, List.flatMap_cons, List.flatMap_nil, List.append_nil]
    rfl
theorem range19 (f : Nat → Int) : (List.range 19).map f = [f 0, f 1, f 2, f (3 + 0), f (3 + 1), f (3 + 2), f (3 + 3), f (3 + 4), f (3 + 5), f (3 + 6), f (3 + 7), f (3 + 8), f (3 + 9), f (3 + 10), f (3 + 11), f (3 + 12), f (3 + 13), f (3 + 14), f (3 + 15)] := rfl
theorem dec_oneW {l : List UInt8} {s : RS} (gN' : s.2 = 0 → l.take s.1 = nums ((List.range 19).map (nV l))) (h : (oRN l s).2.2 = 0) : l.take (oRN l s).2.1 = encB (decW l s) := by
  have g6 : (oRR l s).2.2 = 0 ∧ l.take (oRN l s).2.1 = l.take (oRR l s).2.1 ++ (if refP (oK l s) then numI (oRN l s).1 else []) := by
    unfold oRN at h ⊢
    split at h
    · rename_i g; rw [if_pos g, if_pos g]; exact rNum_one h
    · rename_i g; rw [if_neg g, if_neg g]; exact ⟨h, by simp⟩
  have g5 : (oNum l s).2.2 = 0 ∧ l.take (oRR l s).2.1 = l.take (oNum l s).2.1 ++ (if refP (oK l s) then numI (oRR l s).1 else []) := by
    have h := g6.1
    unfold oRR at h ⊢
    split at h
    · rename_i g; rw [if_pos g, if_pos g]; exact rNum_one h
    · rename_i g; rw [if_neg g, if_neg g]; exact ⟨h, by simp⟩
  have g4 : (oValue l s).2.2 = 0 ∧ l.take (oNum l s).2.1 = l.take (oValue l s).2.1 ++ (if numP (oK l s) then num (zig (oNum l s).1) else []) := by
    have h := g5.1
    unfold oNum at h ⊢
    split at h
    · rename_i g; rw [if_pos g, if_pos g]; exact rSig_one h
    · rename_i g; rw [if_neg g, if_neg g]; exact ⟨h, by simp⟩
  have g3 : (oField l s).2.2 = 0 ∧ l.take (oValue l s).2.1 = l.take (oField l s).2.1 ++ (if valueP (oK l s) then txt (oValue l s).1 else []) := by
    have h := g4.1
    unfold oValue at h ⊢
    split at h
    · rename_i g; rw [if_pos g, if_pos g]; exact rText_one h
    · rename_i g; rw [if_neg g, if_neg g]; exact ⟨h, by simp⟩
  have g2 : (oKey l s).2.2 = 0 ∧ l.take (oField l s).2.1 = l.take (oKey l s).2.1 ++ (if fieldP (oK l s) then txt (oField l s).1 else []) := by
    have h := g3.1
    unfold oField at h ⊢
    split at h
    · rename_i g; rw [if_pos g, if_pos g]; exact rText_one h
    · rename_i g; rw [if_neg g, if_neg g]; exact ⟨h, by simp⟩
  have g1 := rText_one (l := l) (s := oS1 l s) g2.1
  have g0 : (rNum l s).2.2 = 0 ∧ (oS1 l s).1 = (rNum l s).2.1 := by
    have h := g1.1
    unfold oS1 kindS at h ⊢
    split at h
    · exact absurd h (by simp)
    · rename_i g; rw [if_neg g]; exact ⟨h, rfl⟩
  have gK := rNum_one g0.1
  have gN := gN' gK.1
  have eNs : encNs (decW l s) = (List.range 19).map (nV l) := by
    simp only [encNs, decW]
    exact (range19 (nV l)).symm
  have f1 : l.take (oKey l s).2.1 = encB1 (decW l s) := by
    unfold encB1
    rw [eNs, ← gN]
    show l.take (rText l (oS1 l s)).2.1 = l.take s.1 ++ numI (rNum l s).1 ++ txt (rText l (oS1 l s)).1
    rw [g1.2, g0.2, gK.2]
  have f2 : l.take (oField l s).2.1 = encB2 (decW l s) := by
    unfold encB2
    rw [← f1, g2.2]
    show _ = if fieldP (oK l s) then l.take (oKey l s).2.1 ++ txt (oField l s).1 else l.take (oKey l s).2.1
    split <;> simp
  have f3 : l.take (oValue l s).2.1 = encB3 (decW l s) := by
    unfold encB3
    rw [← f2, g3.2]
    show _ = if valueP (oK l s) then l.take (oField l s).2.1 ++ txt (oValue l s).1 else l.take (oField l s).2.1
    split <;> simp
  have f4 : l.take (oNum l s).2.1 = encB4 (decW l s) := by
    unfold encB4
    rw [← f3, g4.2]
    show _ = if numP (oK l s) then l.take (oValue l s).2.1 ++ num (zig (oNum l s).1) else l.take (oValue l s).2.1
    split <;> simp
  unfold encB
  rw [← f4]
  show l.take (oRN l s).2.1 = if refP (oK l s) then l.take (oNum l s).2.1 ++ numI (oRR l s).1 ++ numI (oRN l s).1 else l.take (oNum l s).2.1
  rw [g6.2, g5.2]
  split <;> simp

theorem dec_one {l : List UInt8} (h : (decS l).2 = 0) : l.take (decS l).1 = encB (decV l) := by
  unfold decS at h ⊢
  unfold decV
  exact dec_oneW (fun hz => nums_one hz) h
/-! ### The laws -/
theorem rightP_enc {e f : EvV} (h : e.enc = f.enc) : rightP e ↔ rightP f := by
  simp only [EvV.enc, List.cons.injEq, Value.int.injEq, true_and, and_true] at h
  obtain ⟨h1, h2, h3, d0, d1, d2, d3, d4, d5, d6, d7, d8, d9, d10, d11, d12, d13, d14, d15, h4, h5, h6, h7, h8, h9, h10⟩ := h
  have hst : ∀ {a b : List UInt8}, str a = str b → a = b := fun {a b} h => by
    simp only [str, Value.string.injEq, ByteArray.mk.injEq] at h
    simpa using congrArg Array.toList h
  have hd : ∀ i, i < 16 → e.d i = f.d i := by
    intro i hi
    match i, hi with
    | 0, _ => exact d0 | 1, _ => exact d1 | 2, _ => exact d2 | 3, _ => exact d3 | 4, _ => exact d4 | 5, _ => exact d5 | 6, _ => exact d6 | 7, _ => exact d7
    | 8, _ => exact d8 | 9, _ => exact d9 | 10, _ => exact d10 | 11, _ => exact d11 | 12, _ => exact d12 | 13, _ => exact d13 | 14, _ => exact d14 | 15, _ => exact d15
    | _ + 16, h => exact absurd h (by omega)
  have hh : ∀ r n : Int, hasP e.d r n ↔ hasP f.d r n := fun r n => by
    unfold hasP dotP
    constructor
    · rintro ⟨⟨a, b, c, d⟩, g⟩; exact ⟨⟨a, b, c, d⟩, by rw [← hd _ (by omega)]; exact g⟩
    · rintro ⟨⟨a, b, c, d⟩, g⟩; exact ⟨⟨a, b, c, d⟩, by rw [hd _ (by omega)]; exact g⟩
  have hv : rightVP e.d ↔ rightVP f.d := ⟨fun h i hi => by rw [← hd i hi]; exact h i hi, fun h i hi => by rw [hd i hi]; exact h i hi⟩
  unfold rightP canP
  rw [hh, hv, h1, h2, h3, h4, hst h5, hst h6, hst h7, h8, h9, h10]
  constructor
  · rintro ⟨a, b, c, d, g, r⟩; exact ⟨a, b, c, d, by rw [← hd _ (by unfold dotP at a; omega)]; exact g, r⟩
  · rintro ⟨a, b, c, d, g, r⟩; exact ⟨a, b, c, d, by rw [hd _ (by unfold dotP at a; omega)]; exact g, r⟩
theorem dec_back {e : EvV} (hr : rightP e) : decE (encB e) = 0 ∧ (decR (encB e)).enc = e.enc := by
  obtain ⟨h1, h2⟩ := dec_mid hr (l := encB e) (r := []) (by simp)
  have h3 : decE (encB e) = 0 := by
    unfold decE
    rw [h2, if_neg (by simp), if_neg (by
      rintro (h | h)
      · exact h rfl
      · exact h ((rightP_enc h1).2 hr))]
  exact ⟨h3, by unfold decR; rw [if_neg (by simpa using h3), h1]⟩
theorem dec_more {e : EvV} (hr : rightP e) (x : UInt8) : decE (encB e ++ [x]) = 3 := by
  obtain ⟨h1, h2⟩ := dec_mid hr (l := encB e ++ [x]) (r := [x]) rfl
  unfold decE
  rw [h2, if_neg (by simp), if_pos (.inl (by simp))]
theorem dec_right {l : List UInt8} (h : decE l = 0) : rightP (decV l) ∧ encB (decV l) = l ∧ decR l = decV l := by
  have h0 : (decS l).2 = 0 := by
    by_cases hz : (decS l).2 = 0
    · exact hz
    · unfold decE at h; rw [if_pos hz] at h; exact absurd h hz
  have h1 : ¬ ((decS l).1 ≠ l.length ∨ ¬ rightP (decV l)) := by
    intro hh
    unfold decE at h; rw [if_neg (by simpa using h0), if_pos hh] at h; cases h
  have h2 : (decS l).1 = l.length := by
    by_cases hz : (decS l).1 = l.length
    · exact hz
    · exact absurd (.inl hz) h1
  have h3 : rightP (decV l) := by
    by_cases hz : rightP (decV l)
    · exact hz
    · exact absurd (.inr hz) h1
  refine ⟨h3, ?_, by unfold decR; rw [if_neg (by simpa using h)]⟩
  rw [← dec_one h0, h2, List.take_length]
theorem dec_cut {e : EvV} (hr : rightP e) {k : Nat} (hk : k < (encB e).length) : decE ((encB e).take k) ≠ 0 := by
  intro h
  obtain ⟨h1, h2, _⟩ := dec_right h
  have e1 := dec_mid h1 (l := encB e) (r := (encB e).drop k) (by rw [h2, List.take_append_drop])
  have e2 := dec_mid hr (l := encB e) (r := []) (by simp)
  have e3 := congrArg Prod.fst (e1.2.symm.trans e2.2)
  rw [h2] at e3
  simp only [List.length_take] at e3
  omega
end Go.Proofs.Ythjneijkapopoaa
