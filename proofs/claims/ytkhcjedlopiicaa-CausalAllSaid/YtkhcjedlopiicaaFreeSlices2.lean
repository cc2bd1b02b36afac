/-
  Slices of all bounds; rows appended to within their room.
-/
import Derived.Test.YtkhcjedlopiicaaFreeSlices
set_option linter.unusedSimpArgs false
set_option linter.unusedVariables false
set_option maxRecDepth 20000
namespace Go.Free
open Go.RowKit
section
variable {P : Program} {ops : Array Oper} {Q : Exit → Act → World → Prop} {n : Nat} {I : World → Prop} {k i : Nat} {E : Env} {o : Oper} {d : Bool} {A : Nat → Prop} {H : List Chunk} {key : Nat}
/-- x[a:b:c], of which nothing is used. -/
theorem Plan.slice3 {t e : TypeId} {z : Value} {sz bytes : Nat} {x y y2 y3 : Operand} {m cap a0 b0 c0 : Nat} {B : Option Addr} {kd kd2 kd3 : IntKind} (ho : ops[i]? = some o) (hop : o.op = .slice t x (some y) (some y2) (some y3))
    (hg : wantB ops E o = some true) (hx : opF E x = some (.ex (.slice B m cap))) (he : Elt P t e z sz bytes) (hy : opF E y = some (.ex (.int kd (a0 : Int)))) (hy2 : opF E y2 = some (.ex (.int kd2 (b0 : Int)))) (hy3 : opF E y3 = some (.ex (.int kd3 (c0 : Int)))) (h1 : a0 ≤ b0) (h2 : b0 ≤ c0) (h3 : c0 ≤ cap)
    (h : Plan P ops Q n I d k (i + 1) (setE o.dst Fa.any E)) : Plan P ops Q n I d (k + 1) i E :=
  Plan.step ho (Step.run ho hg fun a w hI hs' => by
    have e1 := hs' x (by simp [hop, Op.operands]) _ hx
    have e2 := hs' y (by simp [hop, Op.operands]) _ hy
    have e3 := hs' y2 (by simp [hop, Op.operands]) _ hy2
    have e4 := hs' y3 (by simp [hop, Op.operands]) _ hy3
    simp only [Fa.den] at e1 e2 e3 e4
    obtain ⟨inf, hinf, hz, hs1, hby⟩ := he.hi
    have hB : (Instr.sliceBounds true m cap (some (.int kd (a0 : Int))) (some (.int kd2 (b0 : Int))) (some (.int kd3 (c0 : Int)))).run P w = .ok (a0, b0, c0) w := by
      unfold Instr.sliceBounds
      simp [run_sliceBound_ok (P := P) (w := w) (Int.natCast_nonneg c0) (show (c0 : Int) ≤ cap by omega), run_sliceBound_ok (P := P) (w := w) (Int.natCast_nonneg b0) (show (b0 : Int) ≤ c0 by omega), run_sliceBound_ok (P := P) (w := w) (Int.natCast_nonneg a0) (show (a0 : Int) ≤ b0 by omega)]
    refine ⟨.slice (if c0 = a0 then B else B.map (·.add (a0 * sz))) (b0 - a0) (c0 - a0), w, ?_, Below.refl _ _, any_den _ _⟩
    have hr : (Instr.sliceAt t (.slice B m cap) (some (.int kd (a0 : Int))) (some (.int kd2 (b0 : Int))) (some (.int kd3 (c0 : Int)))).run P w = .ok (.slice (if c0 = a0 then B else B.map (·.add (a0 * sz))) (b0 - a0) (c0 - a0)) w := by
      simp [Instr.sliceAt, run_underlying he.ht, Instr.slice, hB, sizeOf, typeInfo, hinf, hs1]
    simp only [execOp, hop, Option.map_some, e1, e2, e3, e4, Sem.run_bind, hr, Result.andThen_ok, Sem.run_pure]) h
/-- x[a:] -/
theorem Plan.sliceLoB {t e : TypeId} {z : Value} {sz bytes : Nat} {x y : Operand} {m cap a0 β o0 : Nat} {kd : IntKind} (ho : ops[i]? = some o) (hop : o.op = .slice t x (some y) none none)
    (hg : wantB ops E o = some true) (hx : opF E x = some (.ex (.slice (some ⟨β, o0, none⟩) m cap))) (he : Elt P t e z sz bytes) (hy : opF E y = some (.ex (.int kd (a0 : Int)))) (ha : a0 ≤ m)
    (h : Plan P ops Q n I d k (i + 1) (setE o.dst (.ex (.slice (some ⟨β, if cap = a0 then o0 else o0 + a0 * sz, none⟩) (m - a0) (cap - a0))) E)) : Plan P ops Q n I d (k + 1) i E :=
  Plan.step ho (Step.run ho hg fun a w hI hs' => by
    have e1 := hs' x (by simp [hop, Op.operands]) _ hx
    have e2 := hs' y (by simp [hop, Op.operands]) _ hy
    simp only [Fa.den] at e1 e2
    obtain ⟨inf, hinf, hz, hs1, hby⟩ := he.hi
    have hB : (Instr.sliceBounds true m cap (some (.int kd (a0 : Int))) none none).run P w = .ok (a0, m, cap) w := by
      unfold Instr.sliceBounds
      simp [run_sliceBound_ok (P := P) (w := w) (Int.natCast_nonneg a0) (show (a0 : Int) ≤ m by omega)]
    refine ⟨.slice (some ⟨β, if cap = a0 then o0 else o0 + a0 * sz, none⟩) (m - a0) (cap - a0), w, ?_, Below.refl _ _, by simp [Fa.den]⟩
    have hr : (Instr.sliceAt t (.slice (some ⟨β, o0, none⟩) m cap) (some (.int kd (a0 : Int))) none none).run P w = .ok (.slice (some ⟨β, if cap = a0 then o0 else o0 + a0 * sz, none⟩) (m - a0) (cap - a0)) w := by
      by_cases hc : cap = a0
      · subst hc
        simp [Instr.sliceAt, run_underlying he.ht, Instr.slice, hB, sizeOf, typeInfo, hinf, hs1]
      · simp [Instr.sliceAt, run_underlying he.ht, Instr.slice, hB, sizeOf, typeInfo, hinf, hs1, hc, add_at]
    simp only [execOp, hop, Option.map_none, Option.map_some, e1, e2, Sem.run_bind, hr, Result.andThen_ok, Sem.run_pure]) h
/-- x[a:b] -/
theorem Plan.sliceMid {t e : TypeId} {z : Value} {sz bytes : Nat} {x y y2 : Operand} {m cap a0 b0 β o0 : Nat} {kd kd2 : IntKind} (ho : ops[i]? = some o) (hop : o.op = .slice t x (some y) (some y2) none)
    (hg : wantB ops E o = some true) (hx : opF E x = some (.ex (.slice (some ⟨β, o0, none⟩) m cap))) (he : Elt P t e z sz bytes) (hy : opF E y = some (.ex (.int kd (a0 : Int)))) (hy2 : opF E y2 = some (.ex (.int kd2 (b0 : Int)))) (ha : a0 ≤ b0) (hb : b0 ≤ cap) (hc : a0 < cap)
    (h : Plan P ops Q n I d k (i + 1) (setE o.dst (.ex (.slice (some ⟨β, o0 + a0 * sz, none⟩) (b0 - a0) (cap - a0))) E)) : Plan P ops Q n I d (k + 1) i E :=
  Plan.step ho (Step.run ho hg fun a w hI hs' => by
    have e1 := hs' x (by simp [hop, Op.operands]) _ hx
    have e2 := hs' y (by simp [hop, Op.operands]) _ hy
    have e3 := hs' y2 (by simp [hop, Op.operands]) _ hy2
    simp only [Fa.den] at e1 e2 e3
    obtain ⟨inf, hinf, hz, hs1, hby⟩ := he.hi
    have hB : (Instr.sliceBounds true m cap (some (.int kd (a0 : Int))) (some (.int kd2 (b0 : Int))) none).run P w = .ok (a0, b0, cap) w := by
      unfold Instr.sliceBounds
      simp [run_sliceBound_ok (P := P) (w := w) (Int.natCast_nonneg b0) (show (b0 : Int) ≤ cap by omega), run_sliceBound_ok (P := P) (w := w) (Int.natCast_nonneg a0) (show (a0 : Int) ≤ b0 by omega)]
    refine ⟨.slice (some ⟨β, o0 + a0 * sz, none⟩) (b0 - a0) (cap - a0), w, ?_, Below.refl _ _, by simp [Fa.den]⟩
    have hr : (Instr.sliceAt t (.slice (some ⟨β, o0, none⟩) m cap) (some (.int kd (a0 : Int))) (some (.int kd2 (b0 : Int))) none).run P w = .ok (.slice (some ⟨β, o0 + a0 * sz, none⟩) (b0 - a0) (cap - a0)) w := by
      have hne : ¬ cap = a0 := by omega
      simp [Instr.sliceAt, run_underlying he.ht, Instr.slice, hB, sizeOf, typeInfo, hinf, hs1, hne, add_at]
    simp only [execOp, hop, Option.map_none, Option.map_some, e1, e2, e3, Sem.run_bind, hr, Result.andThen_ok, Sem.run_pure]) h
/-- append(x, y...) within x's block, y out of a chunk (the same one, too). -/
theorem Plan.appendBlk {x y : Operand} {t e : TypeId} {z : Value} {sz bytes g m cap sl sc g2 s0 q q2 : Nat} {c2 : Chunk} {cs news : List Value} (ho : ops[i]? = some o) (hop : o.op = .call { callee := .builtin .append, args := #[x, y], argTypes := #[t, t] })
    (hg : wantB ops E o = some true) (hd : ∀ d, o.dst = some d → d < n) (hx : opF E x = some (.ex (.slice (some ⟨g, 0, none⟩) m cap))) (hy : opF E y = some (.ex (.slice (some ⟨g2, s0, none⟩) sl sc))) (he : Elt P t e z sz bytes)
    (hk : look E key = some (heap A H)) (hA : Own I A) (hqH : H[q]? = some (blk g e cs)) (hqH2 : H[q2]? = some c2) (hr2 : c2.reads g2 s0 news) (hnl : news.length = sl * sz) (h1 : ∀ u ∈ news, u.oneCell' = true) (hroom : m + sl ≤ cap) (hr : m * sz + news.length ≤ cs.length)
    (h : Plan P ops Q n I d k (i + 1) (setE o.dst (.ex (.slice (some ⟨g, 0, none⟩) (m + sl) cap)) ((key, heap A (H.set q (blk g e (cs.take (m * sz) ++ news ++ cs.drop (m * sz + news.length))))) :: sieve E)))
    (hq : d = false ∨ barB ops i = true := by first | exact .inl rfl | exact .inr (by kernel_rfl)) : Plan P ops Q n I d (k + 1) i E :=
  Plan.turnRun ho hg hd hk hA (fun a w φ _ _ hs' hL hLA hfr => by
    have e1 := hs' x (by simp [hop, Op.operands, Call.operands]) _ hx
    have e2 := hs' y (by simp [hop, Op.operands, Call.operands]) _ hy
    simp only [Fa.den] at e1 e2
    obtain ⟨inf, hi, hz, hsz, hby⟩ := he.hi
    have hc := hL.holds q _ hqH
    have hn2 := hr2 w _ (hL.holds q2 _ hqH2)
    have hrun := run_append_room (P := P) (w := w) t o.type e inf he.ht hi g m cap cs.toArray hc.1 ⟨g2, s0, none⟩ sl sc news (by rw [hsz]; exact hnl) (fun j u hj => by rw [add_at]; exact hn2 j u hj) h1 hroom (by rw [hsz]; simpa using hr)
    rw [hsz] at hrun
    simp only [List.toList_toArray] at hrun
    obtain ⟨w', hw'⟩ : ∃ w', w' = w.setRow g (cs.take (m * sz) ++ news ++ cs.drop (m * sz + news.length)).toArray := ⟨_, rfl⟩
    rw [← hw'] at hrun
    have hK : Kept (φ q) w w' := by
      subst hw'
      exact ⟨rfl, rfl, rfl, by simp, fun kk _ hkk => setRow_other w g kk _ (fun e => hkk (by rw [e]; exact (hc.2 g).2 rfl))⟩
    have hc2 : (blk g e (cs.take (m * sz) ++ news ++ cs.drop (m * sz + news.length))).holds w' (φ q) := ⟨by subst hw'; exact setRow_heap w g cs.toArray _ e _ hc.1, hc.2⟩
    have hqlt : q < H.length := (List.getElem?_eq_some_iff.1 hqH).1
    refine ⟨.slice (some ⟨g, 0, none⟩) (m + sl) cap, w', .ex (.slice (some ⟨g, 0, none⟩) (m + sl) cap), _, _, .inl ?_, hK.mono (fun b _ hb => hLA q b hb), hL.upd hqlt hK hc2 (fun b hb => .inl hb), wide (H := H) hLA hfr (fun b hb => .inl hb), by simp [Fa.den], h⟩
    simp only [execOp, hop, resolve, invoke, builtin, List.map_toArray, List.map_cons, List.map_nil, e1, e2, Sem.run_bind, Sem.run_pure, Result.andThen_ok, hrun]) hq
end
end Go.Free
