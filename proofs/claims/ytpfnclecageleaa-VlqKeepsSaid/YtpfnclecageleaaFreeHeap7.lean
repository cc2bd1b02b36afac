/-
  Memory that is turned: rows that calls and texts give, as chunks.
-/
import Derived.Test.YtpfnclecageleaaFreeHeap6
namespace Go.Free
open Go.RowKit
section
variable {P : Program} {ops : Array Oper} {Q : Exit → Act → World → Prop} {n : Nat} {I : World → Prop} {k i : Nat} {E : Env} {o : Oper} {d : Bool} {A : Nat → Prop} {H : List Chunk} {key : Nat}

/-- A call that reads chunk q and returns a row of its own: the row is a chunk more. -/
theorem Plan.callRO {f : FuncId} {xs : List Operand} {ts : Array TypeId} {fs : List Fa} {fn : Func} {e sz q : Nat} {c : Chunk} {cs : List Value} {R : Nat → Fa} (ho : ops[i]? = some o)
    (hop : o.op = .call { callee := .value (.func f), args := xs.toArray, argTypes := ts }) (hg : wantB ops E o = some true) (hc : SpcR P f fs c R) (hR : ∀ B, R B = Free.own B e sz cs)
    (hf : P.funcs[f]? = some fn) (hbody : fn.body.isNone = false) (hname : (fn.name == "runtime.NumGoroutine") = false) (hd : ∀ d, o.dst = some d → d < n)
    (hx : Opnds I E xs fs) (hk : look E key = some (heap A H)) (hA : Own I A) (hqH : H[q]? = some c)
    (h : ∀ B m cap, m * sz = cs.length → Plan P ops Q n I d k (i + 1) (setE o.dst (.ex (.slice B m cap)) ((key, heap A (H ++ [rowC e sz B m cap cs])) :: sieve E))) (hq : d = false ∨ (k = 0 ∧ lastB ops = true) := by first | exact .inl rfl | exact .inr ⟨rfl, by kernel_rfl⟩) : Plan P ops Q n I d (k + 1) i E :=
  Plan.turn ho hg hd hk hA (fun a w φ hI hs hs' hL hLA hfr hsh => by
    unfold wpOp
    simp only [ho, wantB_spec ho hsh (fun t _ f hf => hs t f hf) hg, if_true]
    refine .inl ?_
    unfold Oper.wp
    have hrun : (execOp a.eval o).run P w = .ok (.enter f (xs.map a.eval).toArray) w := by
      have hn : ¬ fn.name = "runtime.NumGoroutine" := by simpa using hname
      have hb : ¬ fn.body = none := by intro e; rw [e] at hbody; cases hbody
      simp [execOp, hop, resolve, invoke, callFunc, Deferred.ofValue, Act.eval, hf, hb, hn]
    rw [hrun]
    simp only [Oper.upon]
    have hden := Opnds.dens (a := a) hI hx (fun x hxm f hf => hs' x (by simp [hop, Op.operands, Call.operands, hxm]) f hf)
    refine (hc w _ (φ q) hden (hL.holds q c hqH)).mono ?_
    rintro ev w' ⟨v, rfl, hB, hRR⟩
    have h0 := hRR w.heap.size (Nat.le_refl _)
    rw [hR] at h0
    obtain ⟨_, m, hm⟩ := h0
    have hsl : ∃ B cap, v = .slice B m cap := by
      rcases hm.2 with ⟨h1, hm0⟩ | ⟨g, cp, cur, h1, _⟩
      · exact ⟨_, _, by rw [h1, hm0]⟩
      · exact ⟨_, _, h1⟩
    obtain ⟨B, cap, rfl⟩ := hsl
    have hm0 : w'.ownsRow 0 e sz (.slice B m cap) m cs := by
      refine ⟨hm.1, ?_⟩
      rcases hm.2 with h1 | ⟨g, cp, cur, hv, hb, r⟩
      · exact .inl h1
      · exact .inr ⟨g, cp, cur, hv, Nat.zero_le _, r⟩
    have hF : ∀ b, (Value.slice B m cap).ownBlock = some b → w.heap.size ≤ b := fun b hb => (hm.lt b hb).1
    refine ⟨.slice B m cap, .ex (.slice B m cap), H ++ [rowC e sz B m cap cs], _, rfl, .ofBelow hB, hL.add hB (c' := rowC e sz B m cap cs) ⟨hm0, fun _ => Iff.rfl⟩ hF, fun q b hb => ?_, by simp [Fa.den], h B m cap hm.1.symm⟩
    by_cases he : q = H.length
    · simp only [if_pos he] at hb; exact hfr b (hF b hb)
    · simp only [if_neg he] at hb; exact hLA q b hb) hq

/-- []byte(text), as a chunk that is written in place. -/
theorem Plan.convSBC {st dt e : TypeId} {x : Operand} {p : List UInt8} (ho : ops[i]? = some o) (hop : o.op = .convert st dt x) (hg : wantB ops E o = some true) (hd : ∀ d, o.dst = some d → d < n)
    (hx : opF E x = some (.ex (str p))) (hsrc : P.underlying st = some .string) (hdst : P.underlying dt = some (.slice e)) (he : P.underlying e = some (.int .u8)) (hp : p.length ≤ 9223372036854775807)
    (hk : look E key = some (heap A H)) (hA : Own I A)
    (h : ∀ g cap, Plan P ops Q n I d k (i + 1) (setE o.dst (.ex (.slice (some ⟨g, 0, none⟩) p.length cap)) ((key, heap A (H ++ [wrow e g p.length cap (bs p)])) :: sieve E))) (hq : d = false ∨ (k = 0 ∧ lastB ops = true) := by first | exact .inl rfl | exact .inr ⟨rfl, by kernel_rfl⟩) : Plan P ops Q n I d (k + 1) i E :=
  Plan.turnRun ho hg hd hk hA (fun a w φ _ _ hs' hL hLA hfr => by
    have h1 := hs' x (by simp [hop, Op.operands]) _ hx
    simp only [Fa.den, str] at h1
    have hr := Lib.run_convert_string_bytes (P := P) w st dt e ⟨p.toArray⟩ hsrc hdst he
    have hsz : (ByteArray.mk p.toArray).size = p.length := by simp [ByteArray.size]
    have hb : Below w.heap.size w (Lib.bytesWorld w e ⟨p.toArray⟩) := ⟨rfl, rfl, rfl, by rw [Lib.bytesWorld_size]; omega, fun j hj => Lib.bytesWorld_at_old w e _ j hj⟩
    have hw : wHolds e w.heap.size p.length (grownCap w (ByteArray.mk p.toArray).size 0 e) (bs p) (Lib.bytesWorld w e ⟨p.toArray⟩) := by
      refine ⟨_, _, Lib.bytesWorld_at_new w e _, Nat.le_refl _, by rw [bs_length], ?_, ?_, ?_, ?_⟩
      · exact Nat.le_trans (Nat.le_of_eq hsz.symm) (grownCap_ge _ _ _ _)
      · have := grownCap_le_maxLen w (ByteArray.mk p.toArray).size 0 e (by rw [hsz]; simpa [maxLen] using hp)
        simpa [maxLen] using this
      · simp [Lib.bytesCells]
      · simp [Lib.bytesCells, bs, List.take_append]
    have hL' := hL.add (c' := wrow e w.heap.size p.length (grownCap w (ByteArray.mk p.toArray).size 0 e) (bs p)) (F := fun b => b = w.heap.size) hb ⟨hw, fun _ => Iff.rfl⟩ (fun b e => Nat.le_of_eq e.symm)
    refine ⟨.slice (some ⟨w.heap.size, 0, none⟩) (ByteArray.mk p.toArray).size (grownCap w (ByteArray.mk p.toArray).size 0 e), Lib.bytesWorld w e ⟨p.toArray⟩, .ex (.slice (some ⟨w.heap.size, 0, none⟩) p.length (grownCap w (ByteArray.mk p.toArray).size 0 e)), _, _, .inl ?_, .ofBelow hb, hL', fun q b hb => ?_, ?_, h w.heap.size _⟩
    · simp only [execOp, hop, h1, Sem.run_bind, hr, Result.andThen_ok, Sem.run_pure]
    · by_cases he : q = H.length
      · simp only [if_pos he] at hb; exact hfr b (Nat.le_of_eq hb.symm)
      · simp only [if_neg he] at hb; exact hLA q b hb
    · simp [Fa.den, ByteArray.size]) hq
end
end Go.Free
