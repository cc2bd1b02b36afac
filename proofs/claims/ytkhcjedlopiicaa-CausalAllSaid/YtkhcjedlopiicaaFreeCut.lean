/-
  Rows that are cut: an element taken out by append(x[:k:k], x[k+1:]...).
-/
import Derived.Test.YtkhcjedlopiicaaFreeSlices2
set_option linter.unusedSimpArgs false
set_option linter.unusedVariables false
set_option maxRecDepth 20000
namespace Go.Free
open Go.RowKit
def lefC (e sz : Nat) (A : Option Addr) (n cap : Nat) (xs : List Value) : Chunk := ⟨fun w F => xs.length = n * sz ∧ n ≤ cap ∧ cap ≤ 9223372036854775807 ∧ ((A = none ∧ n = 0 ∧ cap = 0 ∧ ∀ b, ¬ F b) ∨ ∃ g rest, A = some ⟨g, 0, none⟩ ∧ w.heap[g]? = some (.cells (xs ++ rest).toArray e (0, 0)) ∧ ∀ b, F b ↔ b = g),
  fun w F b h hb => by
    obtain ⟨_, _, _, ⟨_, _, _, h4⟩ | ⟨g, rest, _, h5, h6⟩⟩ := h
    · exact absurd hb (h4 b)
    · rw [(h6 b).1 hb]; exact (Array.getElem?_eq_some_iff.1 h5).1,
  fun w w' F h hk => by
    obtain ⟨h1, h2, h3, h4 | ⟨g, rest, h4, h5, h6⟩⟩ := h
    · exact ⟨h1, h2, h3, .inl h4⟩
    · exact ⟨h1, h2, h3, .inr ⟨g, rest, h4, by rw [hk g ((h6 g).2 rfl)]; exact h5, h6⟩⟩⟩
theorem row_lef {e sz n cap : Nat} {A : Option Addr} {xs : List Value} : Ent (rowC e sz A n cap xs) (lefC e sz A n cap xs) := fun w F hh => by
  have hr := row_room hh
  cases A with
  | none =>
    obtain ⟨h1, h2⟩ := hr.2.2.2.1 rfl
    exact ⟨fun _ => False, ⟨hr.1, hr.2.1, hr.2.2.1, .inl ⟨rfl, h1, h2, fun _ h => h⟩⟩, fun _ h => h.elim⟩
  | some ad =>
    have hg : some ad = some ⟨ad.block, 0, none⟩ := by rw [← hr.2.2.2.2 ad rfl]
    rw [hg] at hh
    obtain ⟨G, ⟨rest, G1, G2⟩, G3⟩ := row_blk w F hh
    exact ⟨G, ⟨hr.1, hr.2.1, hr.2.2.1, .inr ⟨ad.block, rest, hg, G2.1, G2.2⟩⟩, G3⟩
theorem lef_room {e sz n cap : Nat} {A : Option Addr} {xs : List Value} {w : World} {F : Nat → Prop} (h : (lefC e sz A n cap xs).holds w F) : xs.length = n * sz ∧ n ≤ cap ∧ cap ≤ 9223372036854775807 ∧ (0 < n → ∃ g, A = some ⟨g, 0, none⟩) := by
  obtain ⟨h1, h2, h3, ⟨_, h4, _⟩ | ⟨g, _, h4, _⟩⟩ := h
  · exact ⟨h1, h2, h3, fun h => by omega⟩
  · exact ⟨h1, h2, h3, fun _ => ⟨g, h4⟩⟩
theorem lef_cell {e sz g n cap : Nat} {xs : List Value} {w : World} {F : Nat → Prop} (h : (lefC e sz (some ⟨g, 0, none⟩) n cap xs).holds w F) {j : Nat} {u : Value} (hu : xs[j]? = some u) : w.cell? ⟨g, j, none⟩ = some u := by
  obtain ⟨_, _, _, ⟨h1, _⟩ | ⟨g', rest, h1, h2, _⟩⟩ := h
  · cases h1
  · cases h1
    simp only [World.cell?, h2, Option.isSome_none, Bool.false_eq_true, if_false, List.getElem?_toArray]
    rw [List.getElem?_append_left (List.getElem?_eq_some_iff.1 hu).1]; exact hu
theorem lef_reads {e sz g n cap off : Nat} {xs us : List Value} (h : (xs.drop off).take us.length = us) : (lefC e sz (some ⟨g, 0, none⟩) n cap xs).reads g off us := fun w F hh j u hu => lef_cell hh (by
  have hj : j < us.length := (List.getElem?_eq_some_iff.1 hu).1
  rw [← h, List.getElem?_take, if_pos hj, List.getElem?_drop] at hu
  exact hu)
theorem lef_rowH {e sz n cap : Nat} {A : Option Addr} {xs : List Value} {w : World} {F : Nat → Prop} (h : (lefC e sz A n cap xs).holds w F) : rowH sz xs w (.slice A n cap) := by
  obtain ⟨h1, h2, h3, h4⟩ := id h
  refine ⟨A, n, cap, rfl, h2, h3, h1, ?_, ?_⟩
  · rcases h4 with ⟨_, _, h6, _⟩ | ⟨g, _, h5, _⟩
    · exact fun _ => h6
    · intro h7; rw [h5] at h7; cases h7
  · intro j u hu
    rcases h4 with ⟨_, h6, _⟩ | ⟨g, _, h5, _⟩
    · rw [h6, Nat.zero_mul] at h1
      rw [List.eq_nil_of_length_eq_zero h1] at hu; simp at hu
    · subst h5
      refine ⟨_, rfl, ?_⟩
      have hadd : (⟨g, 0, none⟩ : Addr).add j = ⟨g, j, none⟩ := by unfold Addr.add; split <;> simp_all
      rw [hadd]; exact lef_cell h hu
section
variable {P : Program} {ops : Array Oper} {Q : Exit → Act → World → Prop} {n : Nat} {I : World → Prop} {k i : Nat} {E : Env} {o : Oper} {d : Bool} {A : Nat → Prop} {H : List Chunk} {key : Nat}
/-- x[:b:c] -/
theorem Plan.slice3N {t e : TypeId} {z : Value} {sz bytes : Nat} {x y2 y3 : Operand} {m cap b0 c0 β : Nat} {kd2 kd3 : IntKind} (ho : ops[i]? = some o) (hop : o.op = .slice t x none (some y2) (some y3))
    (hg : wantB ops E o = some true) (hx : opF E x = some (.ex (.slice (some ⟨β, 0, none⟩) m cap))) (he : Elt P t e z sz bytes) (hy2 : opF E y2 = some (.ex (.int kd2 (b0 : Int)))) (hy3 : opF E y3 = some (.ex (.int kd3 (c0 : Int)))) (h2 : b0 ≤ c0) (h3 : c0 ≤ cap)
    (h : Plan P ops Q n I d k (i + 1) (setE o.dst (.ex (.slice (some ⟨β, 0, none⟩) b0 c0)) E)) : Plan P ops Q n I d (k + 1) i E :=
  Plan.step ho (Step.run ho hg fun a w hI hs' => by
    have e1 := hs' x (by simp [hop, Op.operands]) _ hx
    have e3 := hs' y2 (by simp [hop, Op.operands]) _ hy2
    have e4 := hs' y3 (by simp [hop, Op.operands]) _ hy3
    simp only [Fa.den] at e1 e3 e4
    obtain ⟨inf, hinf, hz, hs1, hby⟩ := he.hi
    have hB : (Instr.sliceBounds true m cap none (some (.int kd2 (b0 : Int))) (some (.int kd3 (c0 : Int)))).run P w = .ok (0, b0, c0) w := by
      unfold Instr.sliceBounds
      simp [run_sliceBound_ok (P := P) (w := w) (Int.natCast_nonneg c0) (show (c0 : Int) ≤ cap by omega), run_sliceBound_ok (P := P) (w := w) (Int.natCast_nonneg b0) (show (b0 : Int) ≤ c0 by omega)]
    refine ⟨.slice (some ⟨β, 0, none⟩) b0 c0, w, ?_, Below.refl _ _, by simp [Fa.den]⟩
    have hr : (Instr.sliceAt t (.slice (some ⟨β, 0, none⟩) m cap) none (some (.int kd2 (b0 : Int))) (some (.int kd3 (c0 : Int)))).run P w = .ok (.slice (some ⟨β, 0, none⟩) b0 c0) w := by
      simp [Instr.sliceAt, run_underlying he.ht, Instr.slice, hB, sizeOf, typeInfo, hinf, hs1, Addr.add]
    simp only [execOp, hop, Option.map_none, Option.map_some, e1, e3, e4, Sem.run_bind, hr, Result.andThen_ok, Sem.run_pure]) h
/-- append(x[:k:k], x[k+1:]...) of a row that is a chunk -/
theorem Plan.appendCut {x y : Operand} {t e : TypeId} {z : Value} {sz bytes g m cap kk q : Nat} {xs : List Value} (ho : ops[i]? = some o) (hop : o.op = .call { callee := .builtin .append, args := #[x, y], argTypes := #[t, t] })
    (hg : wantB ops E o = some true) (hd : ∀ d, o.dst = some d → d < n) (hx : opF E x = some (.ex (.slice (some ⟨g, 0, none⟩) kk kk))) (hy : opF E y = some (.ex (.slice (some ⟨g, if cap = kk + 1 then 0 else 0 + (kk + 1) * sz, none⟩) (m - (kk + 1)) (cap - (kk + 1))))) (he : Elt P t e z sz bytes)
    (hk : look E key = some (heap A H)) (hA : Own I A) (hqH : H[q]? = some (lefC e sz (some ⟨g, 0, none⟩) m cap xs)) (hkm : kk < m) (h1 : ∀ u ∈ xs, u.oneCell' = true) (hlim : xs.length * bytes ≤ 140737488355328 * sz)
    (h : ∀ B' cap', Plan P ops Q n I d k (i + 1) (setE o.dst (.ex (.slice B' (m - 1) cap')) ((key, heap A (H.set q (lefC e sz B' (m - 1) cap' (xs.take (kk * sz) ++ xs.drop ((kk + 1) * sz))))) :: sieve E)))
    (hq : d = false ∨ barB ops i = true := by first | exact .inl rfl | exact .inr (by kernel_rfl)) : Plan P ops Q n I d (k + 1) i E :=
  Plan.turnRun ho hg hd hk hA (fun a w φ _ _ hs' hL hLA hfr => by
    have e1 := hs' x (by simp [hop, Op.operands, Call.operands]) _ hx
    have e2 := hs' y (by simp [hop, Op.operands, Call.operands]) _ hy
    simp only [Fa.den] at e1 e2
    obtain ⟨inf, hi, hz, hsz, hby⟩ := he.hi
    have hpos := he.hs
    have hb := he.hb
    have hc := hL.holds q _ hqH
    have hcell := fun {j u} => lef_cell (j := j) (u := u) hc
    obtain ⟨hxl, hmc, hcM, hblk⟩ := id hc
    have hlen : xs.length = m * sz := hxl
    have hkl : (kk + 1) * sz ≤ m * sz := Nat.mul_le_mul_right _ hkm
    have hkl2 : kk * sz ≤ m * sz := Nat.mul_le_mul_right _ (by omega)
    have hnl : (xs.drop ((kk + 1) * sz)).length = (m - (kk + 1)) * sz := by rw [List.length_drop, hlen, Nat.sub_mul]
    have hqlt : q < H.length := (List.getElem?_eq_some_iff.1 hqH).1
    rcases hblk with ⟨h0, _⟩ | ⟨g', rest, h0, hg0, hF0⟩
    · cases h0
    simp only [Option.some.injEq, Addr.mk.injEq, and_true] at h0
    subst h0
    by_cases hlast : m = kk + 1
    · -- nothing stands behind it: the same block
      subst hlast
      have hnil : xs.drop ((kk + 1) * sz) = [] := List.drop_eq_nil_of_le (by omega)
      have hrun := run_append_room (P := P) (w := w) t o.type e inf he.ht hi g kk kk (xs ++ rest).toArray hg0 ⟨g, if cap = kk + 1 then 0 else 0 + (kk + 1) * sz, none⟩ (kk + 1 - (kk + 1)) (cap - (kk + 1)) [] (by simp) (fun j u hj => by simp at hj) (by simp) (by omega) (by rw [hsz]; simp; omega)
      rw [hsz] at hrun
      simp only [List.append_nil, List.length_nil, Nat.add_zero, List.take_append_drop, Nat.sub_self, Array.toArray_toList] at hrun
      have hK : Kept (φ q) w (w.setRow g (xs ++ rest).toArray) := ⟨rfl, rfl, rfl, by simp, fun kk _ hkk => setRow_other w g kk _ (fun e => hkk (by rw [e]; exact (hF0 g).2 rfl))⟩
      have hg1 : (w.setRow g (xs ++ rest).toArray).heap[g]? = some (.cells (xs ++ rest).toArray e (0, 0)) := setRow_heap w g (xs ++ rest).toArray _ e _ hg0
      have hc' : (lefC e sz (some ⟨g, 0, none⟩) (kk + 1 - 1) kk (xs.take (kk * sz) ++ xs.drop ((kk + 1) * sz))).holds (w.setRow g (xs ++ rest).toArray) (φ q) := by
        refine ⟨by rw [hnil, List.append_nil, List.length_take, hlen]; simp only [Nat.add_sub_cancel]; omega, by omega, by omega, .inr ⟨g, xs.drop (kk * sz) ++ rest, rfl, ?_, hF0⟩⟩
        rw [hnil, List.append_nil, ← List.append_assoc, List.take_append_drop]; exact hg1
      refine ⟨.slice (some ⟨g, 0, none⟩) (kk + 1 - 1) kk, _, .ex (.slice (some ⟨g, 0, none⟩) (kk + 1 - 1) kk), _, _, .inl ?_, hK.mono (fun b _ hb => hLA q b hb), hL.upd hqlt hK hc' (fun b hb => .inl hb), wide (H := H) hLA hfr (fun b hb => .inl hb), by simp [Fa.den], h (some ⟨g, 0, none⟩) kk⟩
      simp only [Nat.sub_self] at e2
      simp only [execOp, hop, resolve, invoke, builtin, List.map_toArray, List.map_cons, List.map_nil, e1, e2, Sem.run_bind, Sem.run_pure, Result.andThen_ok, hrun, Nat.add_sub_cancel]
    · -- a new block
      have hcne : ¬ cap = kk + 1 := by omega
      rw [if_neg hcne, Nat.zero_add] at e2
      have hnm : m * bytes ≤ 140737488355328 := by
        rw [hlen, Nat.mul_assoc, Nat.mul_comm sz bytes, ← Nat.mul_assoc] at hlim
        exact Nat.le_of_mul_le_mul_right hlim hpos
      have hm63 : m ≤ 140737488355328 := Nat.le_trans (Nat.le_mul_of_pos_right _ hb) hnm
      have hnm2 : (kk + (m - (kk + 1))) * bytes ≤ 140737488355328 := Nat.le_trans (Nat.mul_le_mul_right _ (by omega)) hnm
      have hadd : ∀ o j, (⟨g, o, none⟩ : Addr).add j = ⟨g, o + j, none⟩ := fun o j => by rw [add_at]
      have hr3 := run_append_grow (P := P) w t o.type e inf z he.ht hi hz ⟨g, 0, none⟩ kk kk (xs.take (kk * sz)) (by rw [hsz, List.length_take, hlen]; omega) (fun j u hu => by
        rw [hadd, Nat.zero_add]
        rw [List.getElem?_take] at hu
        split at hu
        · exact hcell hu
        · cases hu) ⟨g, (kk + 1) * sz, none⟩ (m - (kk + 1)) (cap - (kk + 1)) (xs.drop ((kk + 1) * sz)) (by rw [hsz]; exact hnl) (fun j u hu => by
        rw [hadd]
        rw [List.getElem?_drop] at hu
        exact hcell hu) (by omega) (by omega) (growslice_fits (by omega) (by rw [hby]; exact hnm2))
      have hge := grownCap_ge w (kk + (m - (kk + 1))) kk e
      have hcm : grownCap w (kk + (m - (kk + 1))) kk e ≤ maxLen := grownCap_le_maxLen w _ _ _ (by simp only [maxLen]; omega)
      have hm1 : kk + (m - (kk + 1)) = m - 1 := by omega
      rw [hm1] at hr3 hge hcm
      have hnew := heap_alloc_new w.drew (.cells ((xs.take (kk * sz)).toArray ++ (xs.drop ((kk + 1) * sz)).toArray ++ Builtin.zeroCells z.cells (grownCap w (m - 1) kk e - (m - 1))) e)
      have hsz2 : w.drew.heap.size = w.heap.size := rfl
      rw [hsz2] at hnew
      obtain ⟨w', hw'⟩ : ∃ w', w' = w.drew.alloc (Obj.cells ((List.take (kk * sz) xs).toArray ++ (List.drop ((kk + 1) * sz) xs).toArray ++ Builtin.zeroCells z.cells (grownCap w (m - 1) kk e - (m - 1))) e) := ⟨_, rfl⟩
      rw [← hw'] at hr3 hnew
      have hK : Kept (φ q) w w' := by subst hw'; exact ⟨rfl, rfl, rfl, by simp, fun k hk _ => Below.heap_alloc w.drew _ k hk⟩
      have hc' : (lefC e sz (some ⟨w.heap.size, 0, none⟩) (m - 1) (grownCap w (m - 1) kk e) (xs.take (kk * sz) ++ xs.drop ((kk + 1) * sz))).holds w' (fun b => b = w.heap.size) := by
        refine ⟨?_, hge, by simpa [maxLen] using hcm, .inr ⟨w.heap.size, (Builtin.zeroCells z.cells (grownCap w (m - 1) kk e - (m - 1))).toList, rfl, ?_, fun b => Iff.rfl⟩⟩
        · rw [List.length_append, hnl, List.length_take, hlen, Nat.min_eq_left hkl2, ← Nat.add_mul, hm1]
        · rw [hnew]; simp
      refine ⟨.slice (some ⟨w.heap.size, 0, none⟩) (m - 1) (grownCap w (m - 1) kk e), w', .ex (.slice (some ⟨w.heap.size, 0, none⟩) (m - 1) (grownCap w (m - 1) kk e)), _, _, .inl ?_, hK.mono (fun b _ hb => hLA q b hb), hL.upd hqlt hK hc' (fun b hb => .inr (Nat.le_of_eq hb.symm)), wide (H := H) hLA hfr (fun b hb => .inr (Nat.le_of_eq hb.symm)), by simp [Fa.den], h _ _⟩
      simp only [execOp, hop, resolve, invoke, builtin, List.map_toArray, List.map_cons, List.map_nil, e1, e2, Sem.run_bind, Sem.run_pure, Result.andThen_ok, hr3]) hq
end
end Go.Free
