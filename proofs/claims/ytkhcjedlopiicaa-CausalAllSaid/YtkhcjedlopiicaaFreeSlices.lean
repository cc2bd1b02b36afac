/-
  Rows with their spare room: copies within and into them, zeros appended, cleared; calls of function values.
-/
import Derived.Test.YtkhcjedlopiicaaFreeLoose
import Derived.Test.YtkhcjedlopiicaaFreeFull2
import Derived.Lib.Overlaps
set_option linter.unusedSimpArgs false
set_option linter.unusedVariables false
set_option maxRecDepth 20000
namespace Go.Free
open Go.RowKit

/-- All cells of a block of elements of type e, spare ones too. -/
def blk (g e : Nat) (cs : List Value) : Chunk := ⟨fun w F => w.heap[g]? = some (.cells cs.toArray e (0, 0)) ∧ ∀ b, F b ↔ b = g,
  fun w F b h hb => by rw [(h.2 b).1 hb]; exact (Array.getElem?_eq_some_iff.1 h.1).1,
  fun w w' F h hk => ⟨by rw [hk g ((h.2 g).2 rfl)]; exact h.1, h.2⟩⟩
theorem blk_obj {g e : Nat} {cs : List Value} : Ent (blk g e cs) (obj g cs) := fun w F h => ⟨F, ⟨⟨e, h.1⟩, h.2⟩, fun _ hb => hb⟩
theorem Ent.blkEq {g e : Nat} {xs ys : List Value} (h : xs = ys) : Ent (blk g e xs) (blk g e ys) := h ▸ Ent.refl _
theorem blk_cell {g e : Nat} {cs : List Value} {w : World} {F : Nat → Prop} (h : (blk g e cs).holds w F) {j : Nat} {u : Value} (hu : cs[j]? = some u) : w.cell? ⟨g, j, none⟩ = some u := by
  simp only [World.cell?, h.1, Option.isSome_none, Bool.false_eq_true, if_false]
  rw [List.getElem?_toArray]; exact hu
theorem blk_reads {g e off : Nat} {cs us : List Value} (h : (cs.drop off).take us.length = us) : (blk g e cs).reads g off us := fun w F hh j u hu => by
  refine blk_cell hh ?_
  have hj : j < us.length := (List.getElem?_eq_some_iff.1 hu).1
  rw [← h] at hu
  rw [List.getElem?_take_of_lt hj, List.getElem?_drop] at hu
  exact hu
theorem blk_pat {g e off : Nat} {cs vs : List Value} (h : off + vs.length ≤ cs.length) : (blk g e cs).pat g off vs (blk g e (cs.take off ++ vs ++ cs.drop (off + vs.length))) := fun w F ⟨hh, hF⟩ =>
  ⟨(hF g).2 rfl, cs.toArray, e, hh, by simpa using h, fun w' hw => ⟨by simpa using hw, hF⟩⟩
/-- A row is a block, of which the spare cells are not known. -/
theorem row_blk {e sz g n cap : Nat} {xs : List Value} : Ent (rowC e sz (some ⟨g, 0, none⟩) n cap xs) (exC fun rest => purC ((xs ++ rest).length = cap * sz ∧ xs.length = n * sz ∧ n ≤ cap ∧ cap ≤ 9223372036854775807) (blk g e (xs ++ rest))) := fun w F ⟨hh, hF⟩ => by
  rcases hh.2 with ⟨h0, _⟩ | ⟨g', cp, cur, hv, _, hg, h1, h2, h3, h4⟩
  · cases h0
  · cases hv
    have e1 : xs ++ cur.toList.drop (n * sz) = cur.toList := by rw [← h4]; exact List.take_append_drop _ _
    exact ⟨F, ⟨cur.toList.drop (n * sz), ⟨by rw [e1, Array.length_toList, h3], hh.1, h1, by simpa [maxLen] using h2⟩, by rw [e1, Array.toArray_toList]; exact hg, fun b => (hF b).trans ⟨fun h => (by cases h; rfl), fun h => (by subst h; rfl)⟩⟩, fun _ hb => hb⟩
theorem blk_row {e sz g n cap : Nat} {xs rest : List Value} (h1 : (xs ++ rest).length = cap * sz) (h2 : xs.length = n * sz) (h3 : n ≤ cap) (h4 : cap ≤ 9223372036854775807) : Ent (blk g e (xs ++ rest)) (rowC e sz (some ⟨g, 0, none⟩) n cap xs) := fun w F ⟨hh, hF⟩ =>
  ⟨F, ⟨⟨h2, .inr ⟨g, cap, _, rfl, Nat.zero_le _, hh, h3, by simpa [maxLen] using h4, by simpa using h1, by simp [← h2]⟩⟩, fun b => (hF b).trans ⟨fun h => (by subst h; rfl), fun h => (by cases h; rfl)⟩⟩, fun _ hb => hb⟩
/-- What is known of a row's length and room. -/
theorem row_room {e sz n cap : Nat} {B : Option Addr} {xs : List Value} {w : World} {F : Nat → Prop} (h : (rowC e sz B n cap xs).holds w F) : xs.length = n * sz ∧ n ≤ cap ∧ cap ≤ 9223372036854775807 ∧ (B = none → n = 0 ∧ cap = 0) ∧ (∀ ad, B = some ad → ad = ⟨ad.block, 0, none⟩) := by
  refine ⟨h.1.1, ?_⟩
  rcases h.1.2 with ⟨hv, hn⟩ | ⟨g, cp, cur, hv, _, hg, h1, h2, h3, h4⟩
  · cases hv; exact ⟨Nat.le_refl _, by omega, fun _ => ⟨hn, rfl⟩, fun ad h => (by cases h)⟩
  · cases hv; exact ⟨h1, by simpa [maxLen] using h2, fun h => (by cases h), fun ad h => (by cases h; rfl)⟩
section
variable {P : Program} {ops : Array Oper} {Q : Exit → Act → World → Prop} {n : Nat} {I : World → Prop} {k i : Nat} {E : Env} {o : Oper} {d : Bool} {A : Nat → Prop} {H : List Chunk} {key : Nat}
/-- cap(x) -/
theorem Plan.capE {t e : TypeId} {x : Operand} {B : Option Addr} {m cap : Nat} (ho : ops[i]? = some o) (hop : o.op = .call { callee := .builtin .cap, args := #[x], argTypes := #[t] }) (hg : wantB ops E o = some true)
    (hx : opF E x = some (.ex (.slice B m cap))) (hu : P.underlying t = some (.slice e)) (h : Plan P ops Q n I d k (i + 1) (setE o.dst (.ex (.int .i64 cap)) E)) : Plan P ops Q n I d (k + 1) i E :=
  Plan.step ho (Step.run ho hg fun a w _ hs' => by
    have e1 := hs' x (by simp [hop, Op.operands, Call.operands]) _ hx
    simp only [Fa.den] at e1
    refine ⟨.int .i64 cap, w, ?_, Below.refl _ _, by simp [Fa.den]⟩
    simp [execOp, hop, resolve, invoke, builtin, e1, Builtin.cap_, run_underlying hu, goInt]) h
theorem run_append_zeros {w : World} {t tn ty e : TypeId} {z : Value} {sz bytes m cap k0 : Nat} {kd : IntKind} {g : Nat} {olds : List Value} (he : Elt P t e z sz bytes) (hn : P.underlying tn = some (.int kd)) (hlo : olds.length = m * sz) (holds : ∀ j v, olds[j]? = some v → w.cell? ⟨g, j, none⟩ = some v)
    (hgt : cap < m + k0) (hk : 0 < k0) (hlim : (m + k0) * bytes ≤ 140737488355328) :
    (Builtin.append_ #[t, tn] ty #[.slice (some ⟨g, 0, none⟩) m cap, .int .i64 k0]).run P w = .ok (.slice (some ⟨w.heap.size, 0, none⟩) (m + k0) (grownCap w (m + k0) cap e))
      (w.drew.alloc (.cells (olds.toArray ++ Builtin.zeroCells z.cells k0 ++ Builtin.zeroCells z.cells (grownCap w (m + k0) cap e - (m + k0))) e)) := by
  obtain ⟨inf, hi, hz, hsz, hby⟩ := he.hi
  have hpos := he.hs
  have hbp := he.hb
  have h63 : m + k0 ≤ 140737488355328 := Nat.le_trans (Nat.le_mul_of_pos_right _ hbp) hlim
  have hk63 : k0 * bytes ≤ 140737488355328 := Nat.le_trans (Nat.mul_le_mul_right _ (by omega)) hlim
  have hw : IntKind.i64.wrap (k0 : Int) = k0 := IntWalk.i64_in _ (by omega)
  have hn1 : ¬ (m + k0 ≤ cap) := by omega
  have h63' : ¬ (9223372036854775807 < ((m : Int) + (k0 : Int))) := by omega
  have hfit := growslice_fits (need := m + k0) (old := cap) (bytes := bytes) hgt hlim
  have h48' : ¬ (281474976710656 < Builtin.nextslicecap (m + k0) cap * inf.bytes) := by rw [hby]; omega
  have hfo := run_firstCells_some (P := P) w.drew inf.size m ⟨g, 0, none⟩ m cap olds (by rw [hsz]; exact hlo) (by intro j v hj; rw [add_at, Nat.zero_add]; simpa using holds j v hj)
  have hneg : ¬ ((k0 : Int) < 0) := by omega
  have hbig : ¬ ((281474976710656 : Int) < (k0 : Int) * (inf.bytes : Int)) := by
    rw [hby, ← Int.natCast_mul]; omega
  have hnz : ¬ (k0 * inf.size = 0) := by rw [hsz]; exact Nat.mul_ne_zero (by omega) (by omega)
  simp [Builtin.append_, run_underlying he.ht, run_underlying hn, asInt, asIntOf, hw, hneg, hbig, sizeOf, typeInfo, zeroValue, hi, hz, hn1, h63', h48', Question.forced, hfo, hnz, newRow, grownCap]
theorem zeroCells_length {z : Value} {sz k0 : Nat} (hz : z.cells.size = sz) : (Builtin.zeroCells z.cells k0).toList.length = k0 * sz := by
  simp [Builtin.zeroCells, hz]
/-- append(x, make([]T, m)...) where there is no room: the new row is a chunk more. -/
theorem Plan.appendZ {x y : Operand} {t tn e : TypeId} {z : Value} {sz bytes m cap k0 g q : Nat} {kn : IntKind} {cs : List Value} (ho : ops[i]? = some o) (hop : o.op = .call { callee := .builtin .append, args := #[x, y], argTypes := #[t, tn] })
    (hg : wantB ops E o = some true) (hd : ∀ d, o.dst = some d → d < n) (hx : opF E x = some (.ex (.slice (some ⟨g, 0, none⟩) m cap))) (hy : opF E y = some (.ex (.int .i64 (k0 : Int)))) (he : Elt P t e z sz bytes) (hn : P.underlying tn = some (.int kn))
    (hk : look E key = some (heap A H)) (hA : Own I A) (hqH : H[q]? = some (blk g e cs)) (hm : m * sz ≤ cs.length) (hgt : cap < m + k0) (hk0 : 0 < k0) (hlim : (m + k0) * bytes ≤ 140737488355328)
    (h : ∀ β cap' rest, m + k0 ≤ cap' → cap' ≤ 9223372036854775807 → rest.length = (cap' - m) * sz → Plan P ops Q n I d k (i + 1) (setE o.dst (.ex (.slice (some ⟨β, 0, none⟩) (m + k0) cap')) ((key, heap A (H ++ [blk β e (cs.take (m * sz) ++ rest)])) :: sieve E)))
    (hq : d = false ∨ barB ops i = true := by first | exact .inl rfl | exact .inr (by kernel_rfl)) : Plan P ops Q n I d (k + 1) i E :=
  Plan.turnRun ho hg hd hk hA (fun a w φ _ _ hs' hL hLA hfr => by
    have e1 := hs' x (by simp [hop, Op.operands, Call.operands]) _ hx
    have e2 := hs' y (by simp [hop, Op.operands, Call.operands]) _ hy
    simp only [Fa.den] at e1 e2
    have hc := hL.holds q _ hqH
    have hb0 := he.hb
    have hrun := run_append_zeros (P := P) (w := w) (ty := o.type) (g := g) (cap := cap) (olds := cs.take (m * sz)) he hn (by rw [List.length_take]; omega) (fun j v hj => by
      have hlt : j < m * sz := by
        have := (List.getElem?_eq_some_iff.1 hj).1
        rw [List.length_take] at this; omega
      rw [List.getElem?_take_of_lt hlt] at hj
      exact blk_cell hc hj) hgt hk0 hlim
    have hge := grownCap_ge w (m + k0) cap e
    have h63 : m + k0 ≤ 140737488355328 := Nat.le_trans (Nat.le_mul_of_pos_right _ hb0) hlim
    have hcm : grownCap w (m + k0) cap e ≤ maxLen := grownCap_le_maxLen w _ _ _ (by simp only [maxLen]; omega)
    obtain ⟨rest, hrest⟩ : ∃ rest, rest = (Builtin.zeroCells z.cells k0).toList ++ (Builtin.zeroCells z.cells (grownCap w (m + k0) cap e - (m + k0))).toList := ⟨_, rfl⟩
    have hcells : (cs.take (m * sz)).toArray ++ Builtin.zeroCells z.cells k0 ++ Builtin.zeroCells z.cells (grownCap w (m + k0) cap e - (m + k0)) = (cs.take (m * sz) ++ rest).toArray := by
      apply Array.ext'; rw [hrest]; simp
    rw [hcells] at hrun
    have hb : Below w.heap.size w (w.drew.alloc (.cells (cs.take (m * sz) ++ rest).toArray e)) := ⟨rfl, rfl, rfl, by simp, fun k hk => Below.heap_alloc w.drew _ k hk⟩
    have hnew := heap_alloc_new w.drew (.cells (cs.take (m * sz) ++ rest).toArray e)
    have hsz2 : w.drew.heap.size = w.heap.size := rfl
    rw [hsz2] at hnew
    have hL' := hL.add (c' := blk w.heap.size e (cs.take (m * sz) ++ rest)) (F := fun b => b = w.heap.size) hb ⟨hnew, fun b => Iff.rfl⟩ (fun b e => Nat.le_of_eq e.symm)
    have hrl : rest.length = (grownCap w (m + k0) cap e - m) * sz := by
      rw [hrest, List.length_append, zeroCells_length he.hz, zeroCells_length he.hz, ← Nat.add_mul]; congr 1; omega
    refine ⟨.slice (some ⟨w.heap.size, 0, none⟩) (m + k0) (grownCap w (m + k0) cap e), w.drew.alloc (.cells (cs.take (m * sz) ++ rest).toArray e), .ex (.slice (some ⟨w.heap.size, 0, none⟩) (m + k0) (grownCap w (m + k0) cap e)), _, _, .inl ?_, .ofBelow hb, hL', fun q b hb => ?_, by simp [Fa.den], h w.heap.size _ rest hge (by simpa [maxLen] using hcm) hrl⟩
    · simp only [execOp, hop, resolve, invoke, builtin, List.map_toArray, List.map_cons, List.map_nil, e1, e2, Sem.run_bind, Sem.run_pure, Result.andThen_ok, hrun]
    · by_cases he : q = H.length
      · simp only [if_pos he] at hb; exact hfr b (Nat.le_of_eq hb.symm)
      · simp only [if_neg he] at hb; exact hLA q b hb) hq
theorem run_copy_blk {w : World} {t ty e : TypeId} {z : Value} {sz bytes g d0 dl dc sl sc g2 s0 cnt : Nat} {cs news : List Value} {F : Nat → Prop} (he : Elt P t e z sz bytes) (hc : (blk g e cs).holds w F) (hcnt : Nat.min sl dl = cnt) (hnl : news.length = cnt * sz)
    (hn : ∀ j u, news[j]? = some u → w.cell? ⟨g2, s0 + j, none⟩ = some u) (h1 : ∀ u ∈ news, u.oneCell' = true) (hr : d0 + news.length ≤ cs.length) :
    (Builtin.copy_ #[t, t] ty #[.slice (some ⟨g, d0, none⟩) dl dc, .slice (some ⟨g2, s0, none⟩) sl sc]).run P w = .ok (.int .i64 cnt) (w.setRow g (cs.take d0 ++ news ++ cs.drop (d0 + news.length)).toArray) := by
  obtain ⟨inf, hi, hz, hsz, hby⟩ := he.hi
  have hf := run_firstCells_some (P := P) w inf.size cnt ⟨g2, s0, none⟩ sl sc news (by rw [hsz]; exact hnl) (fun j v hj => by rw [add_at]; exact hn j v hj)
  have hst := run_storeCells_at P g d0 e news 0 cs.toArray w hc.1 (by simpa using hr) h1
  simp only [Nat.add_zero] at hst
  simp only [Builtin.copy_, List.getElem?_toArray, List.getElem?_cons_zero, List.getElem?_cons_succ, Sem.run_bind, run_underlying he.ht, Result.andThen_ok, Builtin.lenOf, Sem.run_pure, hcnt, sizeOf, typeInfo, hi]
  simp [hi, hf, hst, goInt]
/-- copy(x, y) into a block, out of a chunk (the same one, too). -/
theorem Plan.copyC {x y : Operand} {t e : TypeId} {z : Value} {sz bytes g d0 dl dc sl sc g2 s0 cnt q q2 : Nat} {c2 : Chunk} {cs news : List Value} (ho : ops[i]? = some o) (hop : o.op = .call { callee := .builtin .copy, args := #[x, y], argTypes := #[t, t] })
    (hg : wantB ops E o = some true) (hd : ∀ d, o.dst = some d → d < n) (hx : opF E x = some (.ex (.slice (some ⟨g, d0, none⟩) dl dc))) (hy : opF E y = some (.ex (.slice (some ⟨g2, s0, none⟩) sl sc))) (he : Elt P t e z sz bytes)
    (hk : look E key = some (heap A H)) (hA : Own I A) (hqH : H[q]? = some (blk g e cs)) (hqH2 : H[q2]? = some c2) (hr2 : c2.reads g2 s0 news) (hcnt : Nat.min sl dl = cnt) (hnl : news.length = cnt * sz) (h1 : ∀ u ∈ news, u.oneCell' = true) (hr : d0 + news.length ≤ cs.length)
    (h : Plan P ops Q n I d k (i + 1) (setE o.dst (.ex (.int .i64 cnt)) ((key, heap A (H.set q (blk g e (cs.take d0 ++ news ++ cs.drop (d0 + news.length))))) :: sieve E)))
    (hq : d = false ∨ barB ops i = true := by first | exact .inl rfl | exact .inr (by kernel_rfl)) : Plan P ops Q n I d (k + 1) i E :=
  Plan.turnRun ho hg hd hk hA (fun a w φ _ _ hs' hL hLA hfr => by
    have e1 := hs' x (by simp [hop, Op.operands, Call.operands]) _ hx
    have e2 := hs' y (by simp [hop, Op.operands, Call.operands]) _ hy
    simp only [Fa.den] at e1 e2
    have hc := hL.holds q _ hqH
    have hn2 := hr2 w _ (hL.holds q2 _ hqH2)
    have hrun := run_copy_blk (P := P) (ty := o.type) (dc := dc) (sc := sc) he hc hcnt hnl hn2 h1 hr
    obtain ⟨w', hw'⟩ : ∃ w', w' = w.setRow g (cs.take d0 ++ news ++ cs.drop (d0 + news.length)).toArray := ⟨_, rfl⟩
    rw [← hw'] at hrun
    have hK : Kept (φ q) w w' := by
      subst hw'
      exact ⟨rfl, rfl, rfl, by simp, fun kk _ hkk => setRow_other w g kk _ (fun e => hkk (by rw [e]; exact (hc.2 g).2 rfl))⟩
    have hc2 : (blk g e (cs.take d0 ++ news ++ cs.drop (d0 + news.length))).holds w' (φ q) := ⟨by subst hw'; exact setRow_heap w g cs.toArray _ e _ hc.1, hc.2⟩
    have hqlt : q < H.length := (List.getElem?_eq_some_iff.1 hqH).1
    refine ⟨.int .i64 cnt, w', .ex (.int .i64 cnt), _, _, .inl ?_, hK.mono (fun b _ hb => hLA q b hb), hL.upd hqlt hK hc2 (fun b hb => .inl hb), wide (H := H) hLA hfr (fun b hb => .inl hb), by simp [Fa.den], h⟩
    simp only [execOp, hop, resolve, invoke, builtin, List.map_toArray, List.map_cons, List.map_nil, e1, e2, Sem.run_bind, Sem.run_pure, Result.andThen_ok, hrun]) hq
/-- clear(x) of a part of a block. -/
theorem Plan.clearC {x : Operand} {t e : TypeId} {z : Value} {sz bytes g d0 m c q : Nat} {cs : List Value} (ho : ops[i]? = some o) (hop : o.op = .call { callee := .builtin .clear, args := #[x], argTypes := #[t] }) (hdst : o.dst = none)
    (hg : wantB ops E o = some true) (hx : opF E x = some (.ex (.slice (some ⟨g, d0, none⟩) m c))) (he : Elt P t e z sz bytes)
    (hk : look E key = some (heap A H)) (hA : Own I A) (hqH : H[q]? = some (blk g e cs)) (hz1 : ∀ u ∈ z.cells.toList, u.oneCell' = true) (hr : d0 + m * sz ≤ cs.length)
    (h : ∀ zs : List Value, zs.length = m * sz → Plan P ops Q n I d k (i + 1) ((key, heap A (H.set q (blk g e (cs.take d0 ++ zs ++ cs.drop (d0 + m * sz))))) :: sieve E))
    (hq : d = false ∨ barB ops i = true := by first | exact .inl rfl | exact .inr (by kernel_rfl)) : Plan P ops Q n I d (k + 1) i E :=
  Plan.turnRun ho hg (by rw [hdst]; intro _ e; cases e) hk hA (fun a w φ _ _ hs' hL hLA hfr => by
    have e1 := hs' x (by simp [hop, Op.operands, Call.operands]) _ hx
    simp only [Fa.den] at e1
    obtain ⟨inf, hi, hzz, hsz, hby⟩ := he.hi
    have hc := hL.holds q _ hqH
    have hzl := zeroCells_length (z := z) (k0 := m) he.hz
    have hzo : ∀ u ∈ (Builtin.zeroCells z.cells m).toList, u.oneCell' = true := fun u hu => by
      simp only [Builtin.zeroCells, Array.toList_map, List.mem_map] at hu
      obtain ⟨j, hj, rfl⟩ := hu
      have hp : 0 < z.cells.size := by rw [he.hz]; exact he.hs
      have hlt : j % z.cells.size < z.cells.size := Nat.mod_lt _ hp
      have e2 : z.cells[j % z.cells.size]! = z.cells[j % z.cells.size] := by simp [hlt]
      rw [e2]
      exact hz1 _ (by simp)
    have hst := run_storeCells_at P g d0 e (Builtin.zeroCells z.cells m).toList 0 cs.toArray w hc.1 (by rw [hzl]; simpa using hr) hzo
    simp only [Nat.add_zero] at hst
    rw [hzl] at hst
    obtain ⟨w', hw'⟩ : ∃ w', w' = w.setRow g (cs.take d0 ++ (Builtin.zeroCells z.cells m).toList ++ cs.drop (d0 + m * sz)).toArray := ⟨_, rfl⟩
    have hcc : (blk g e (cs.take d0 ++ (Builtin.zeroCells z.cells m).toList ++ cs.drop (d0 + m * sz))).holds w' (φ q) := ⟨by subst hw'; exact setRow_heap w g cs.toArray _ e _ hc.1, hc.2⟩
    have hK : Kept (φ q) w w' := by
      subst hw'
      exact ⟨rfl, rfl, rfl, by simp, fun kk _ hkk => setRow_other w g kk _ (fun e => hkk (by rw [e]; exact (hc.2 g).2 rfl))⟩
    have hqlt : q < H.length := (List.getElem?_eq_some_iff.1 hqH).1
    by_cases hm : m = 0
    · subst hm
      have hz0 : (Builtin.zeroCells z.cells 0).toList = [] := List.eq_nil_of_length_eq_zero (by rw [hzl, Nat.zero_mul])
      have hp := h (Builtin.zeroCells z.cells 0).toList hzl
      rw [hz0, List.append_nil, Nat.zero_mul, show d0 + 0 = d0 from rfl, List.take_append_drop] at hp
      refine ⟨.tuple #[], w, .ex (.tuple #[]), _, _, .inl ?_, Kept.refl _ _, hL.upd hqlt (Kept.refl _ _) hc (fun b hb => .inl hb), wide (H := H) hLA hfr (fun b hb => .inl hb), by simp [Fa.den], by rw [hdst]; exact hp⟩
      simp [execOp, hop, resolve, invoke, builtin, e1, Builtin.clear_, run_underlying he.ht]
    · refine ⟨.tuple #[], w', .ex (.tuple #[]), _, _, .inl ?_, hK.mono (fun b _ hb => hLA q b hb), hL.upd hqlt hK hcc (fun b hb => .inl hb), wide (H := H) hLA hfr (fun b hb => .inl hb), by simp [Fa.den], by rw [hdst]; exact h _ hzl⟩
      have hst' : (storeCells ⟨g, d0, none⟩ (Builtin.zeroCells z.cells m).toList).run P w = .ok () w' := by
        rw [hw']; simpa using hst
      simp [execOp, hop, resolve, invoke, builtin, e1, Builtin.clear_, run_underlying he.ht, zeroValue, typeInfo, hi, hzz, hm, hst']) hq
/-- A call of a function value. -/
theorem Plan.callFn {f : FuncId} {x : Operand} {xs : List Operand} {ts : Array TypeId} {caps : Array Value} {vs : List Value} {r : Value} {fn : Func} (ho : ops[i]? = some o) (hop : o.op = .call { callee := .value x, args := xs.toArray, argTypes := ts }) (hg : wantB ops E o = some true)
    (hx : opF E x = some (.ex (.func (.func f) #[] caps))) (hxs : ∀ (a : Act) (w : World), (∀ y, y ∈ xs → ∀ g, opF E y = some g → g.den w (a.eval y)) → xs.map a.eval = vs)
    (hf : P.funcs[f]? = some fn) (hbody : fn.body.isNone = false) (hname : (fn.name == "runtime.NumGoroutine") = false)
    (hc : ∀ w, I w → Calls P f (vs.toArray ++ caps) w fun e w' => e = .returned r ∧ Below w.heap.size w w')
    (h : Plan P ops Q n I d k (i + 1) (setE o.dst (.ex r) E)) : Plan P ops Q n I d (k + 1) i E :=
  Plan.step ho (fun a w hI hsh hs => by
    unfold wpOp
    simp only [ho, wantB_spec ho hsh (fun t ht => hs t (.inl ht)) hg, if_true]
    refine .inl ?_
    unfold Oper.wp
    have e1 := opF_den (a := a) (w := w) ho (by simp [hop, Op.operands, Call.operands]) (fun t ht => hs t (.inl ht)) hx
    simp only [Fa.den] at e1
    have e2 := hxs a w (fun y hy g hg => opF_den ho (by simp [hop, Op.operands, Call.operands, hy]) (fun t ht => hs t (.inl ht)) hg)
    have hrun : (execOp a.eval o).run P w = .ok (.enter f (vs.toArray ++ caps)) w := by
      have hn : ¬ fn.name = "runtime.NumGoroutine" := by simpa using hname
      have hb : ¬ fn.body = none := by intro e; rw [e] at hbody; cases hbody
      simp [execOp, hop, resolve, invoke, callFunc, Deferred.ofValue, e1, hf, hb, hn, ← e2]
    rw [hrun]
    simp only [Oper.upon]
    refine (hc w hI).mono ?_
    rintro e w' ⟨rfl, hb⟩
    exact ⟨r, by rw [dst_of ho], hb, by simp [Fa.den]⟩) h
/-- A new variable, that is only read. -/
theorem Plan.boxP {t : TypeId} {x : Operand} {v : Value} (ho : ops[i]? = some o) (hop : o.op = .box t x) (hg : wantB ops E o = some true) (hx : opF E x = some (.ex v))
    (h : Plan P ops Q n I d k (i + 1) (setE o.dst (ptrF v.cells.toList) E)) : Plan P ops Q n I d (k + 1) i E :=
  Plan.step ho (Step.run ho hg fun a w _ hs' => by
    have e1 := hs' x (by simp [hop, Op.operands]) _ hx
    simp only [Fa.den] at e1
    have hb : Below w.heap.size w (w.alloc (.cells v.cells t)) := (Below.refl _ _).alloc (Nat.le_refl _) _
    refine ⟨ptr w.heap.size, w.alloc (.cells v.cells t), ?_, hb, ⟨⟨w.heap.size, 0, none⟩, rfl, fun j u hu => ?_⟩⟩
    · simp [execOp, hop, e1, Instr.box, newVar, newRow]
    · rw [add_at]
      simp only [World.cell?, heap_alloc_new w (.cells v.cells t), Option.isSome_none, Bool.false_eq_true, if_false, Nat.zero_add]
      rw [← Array.getElem?_toList]; exact hu) h
theorem vals1 {x : Operand} {u : Value} (h1 : opF E x = some (.ex u)) : ∀ (a : Act) (w : World), (∀ y, y ∈ [x] → ∀ g, opF E y = some g → g.den w (a.eval y)) → [x].map a.eval = [u] := fun a w h => by
  have e1 := h x (by simp) _ h1
  simp only [Fa.den] at e1
  simp [e1]
theorem vals2 {x y : Operand} {u v : Value} (h1 : opF E x = some (.ex u)) (h2 : opF E y = some (.ex v)) : ∀ (a : Act) (w : World), (∀ z, z ∈ [x, y] → ∀ g, opF E z = some g → g.den w (a.eval z)) → [x, y].map a.eval = [u, v] := fun a w h => by
  have e1 := h x (by simp) _ h1
  have e2 := h y (by simp) _ h2
  simp only [Fa.den] at e1 e2
  simp [e1, e2]
theorem Spc.fnCalls {f : FuncId} {As : List Fa} {r : Value} {vs : List Value} {caps : Array Value} (h : Spc P f As fun _ => .ex r) (hd : ∀ w, I w → Fa.dens As w (vs ++ caps.toList)) : ∀ w, I w → Calls P f (vs.toArray ++ caps) w fun e w' => e = .returned r ∧ Below w.heap.size w w' := fun w hI => by
  have h1 := h w _ (hd w hI)
  have e : (vs ++ caps.toList).toArray = vs.toArray ++ caps := by apply Array.ext'; simp
  rw [e] at h1
  refine h1.mono ?_
  rintro e w' ⟨v, rfl, hb, hR⟩
  have := hR 0 (Nat.zero_le _)
  simp only [Fa.den] at this
  exact ⟨by rw [this], hb⟩
/-- A call that turns some of the chunks, told as one. -/
theorem Plan.callG {f : FuncId} {xs : List Operand} {ts : Array TypeId} {fs : List Fa} {c : Chunk} (D : Chunk) {X : Type} {ok : X → Prop} {R : X → Fa} {c' : X → Chunk} {fn : Func} (H' : X → List Chunk) (ho : ops[i]? = some o)
    (hop : o.op = .call { callee := .value (.func f), args := xs.toArray, argTypes := ts }) (hg : wantB ops E o = some true) (hc : SpcC P f fs c ok R c')
    (hf : P.funcs[f]? = some fn) (hbody : fn.body.isNone = false) (hname : (fn.name == "runtime.NumGoroutine") = false) (hd : ∀ d, o.dst = some d → d < n)
    (hx : Opnds I E xs fs) (hk : look E key = some (heap A H)) (hA : Own I A) (hsp : Ent (allC H) (Free.sepC c D)) (hjn : ∀ x, Ent (Free.sepC (c' x) D) (allC (H' x)))
    (h : ∀ x, ok x → Plan P ops Q n I d k (i + 1) (setE o.dst (R x) ((key, heap A (H' x)) :: sieve E))) (hq : d = false ∨ barB ops i = true := by first | exact .inl rfl | exact .inr (by kernel_rfl)) : Plan P ops Q n I d (k + 1) i E :=
  Plan.turn ho hg hd hk hA (fun a w φ hI hs hs' hL hLA hfr hsh => by
    unfold wpOp
    simp only [ho, wantB_spec ho hsh (fun t _ f hf => hs t f hf) hg, if_true]
    refine .inl ?_
    unfold Oper.wp
    have hrun : (execOp a.eval o).run P w = .ok (.enter f (xs.map a.eval).toArray) w := by
      have hn : ¬ fn.name = "runtime.NumGoroutine" := by simpa using hname
      have hb : ¬ fn.body = none := by intro e; rw [e] at hbody; cases hbody
      simp [execOp, hop, resolve, invoke, callFunc, Deferred.ofValue, Act.eval, hf, hb, hn]
    rw [hrun]
    simp only [Oper.upon]
    have hden := Opnds.dens (a := a) hI hx (fun x hxm f hf => hs' x (by simp [hop, Op.operands, Call.operands, hxm]) f hf)
    obtain ⟨G0, hG0, hG0s⟩ := hsp w _ hL.all
    obtain ⟨Gc, Gd, hG, hdis, hcH, hdH⟩ := hG0
    refine (hc w _ Gc hden hcH).mono ?_
    rintro e w' ⟨v, x, rfl, hok, hK, hR, F', hF', hFb⟩
    have hdH' : D.holds w' Gd := D.keep hdH hK (fun b hb hc => hdis b hc hb)
    obtain ⟨G2, hG2, hG2s⟩ := hjn x w' (fun b => F' b ∨ Gd b) ⟨F', Gd, fun b => Iff.rfl, fun b hb hb2 => by
      rcases hFb b hb with h1 | h1
      · exact hdis b h1 hb2
      · have := D.lt w Gd b hdH hb2; omega, hF', hdH'⟩
    obtain ⟨φ', hL', hφ'⟩ := Lies.ofAll hG2
    have hin : ∀ b, Gc b ∨ Gd b → A b := fun b hb => by
      obtain ⟨q, hq⟩ := hG0s b ((hG b).2 hb)
      exact hLA q b hq
    refine ⟨v, R x, H' x, φ', rfl, hK.mono (fun b _ hb => hin b (.inl hb)), hL', fun q b hb => ?_, hR, h x hok⟩
    rcases hG2s b (hφ' q b hb) with h1 | h1
    · rcases hFb b h1 with h2 | h2
      · exact hin b (.inl h2)
      · exact hfr b h2
    · exact hin b (.inr h1)) hq
/-- slices.overlaps of rows in unlike blocks. -/
theorem Plan.overlapsC {f : FuncId} {x y : Operand} {ts : Array TypeId} {tS tR e g g2 o1 o2 la ca lb cb q q2 : Nat} {cs cs2 : List Value} {z : Value} {sz bytes : Nat} {fn : Func} (ho : ops[i]? = some o) (hop : o.op = .call { callee := .value (.func f), args := #[x, y], argTypes := ts }) (hg : wantB ops E o = some true)
    (hf : P.funcs[f]? = some fn) (hbody : fn.body.isNone = true) (hname : (fn.name == "runtime.NumGoroutine") = false) (hnx : Extern.findNext fn = none) (hfi : Extern.find fn = some (Extern.SlicesOverlaps.overlaps #[tS, tS] #[tR]))
    (hx : opF E x = some (.ex (.slice (some ⟨g, o1, none⟩) la ca))) (hy : opF E y = some (.ex (.slice (some ⟨g2, o2, none⟩) lb cb))) (he : Elt P tS e z sz bytes)
    (hk : look E key = some (heap A H)) (hqH : H[q]? = some (blk g e cs)) (hqH2 : H[q2]? = some (blk g2 e cs2)) (hne : q ≠ q2) (hcs : cs2.length ≠ 0) (hkn : n ≤ key)
    (h : Plan P ops Q n I d k (i + 1) (setE o.dst (.ex (.bool false)) E)) : Plan P ops Q n I d (k + 1) i E :=
  Plan.step ho (Step.runK ho hg fun a w hI hs' hK => by
    have e1 := hs' x (by simp [hop, Op.operands, Call.operands]) _ hx
    have e2 := hs' y (by simp [hop, Op.operands, Call.operands]) _ hy
    simp only [Fa.den] at e1 e2
    obtain ⟨φ, hL, _⟩ := hK key hkn _ hk
    have h1 := hL.holds q _ hqH
    have h2 := hL.holds q2 _ hqH2
    have hgg : g ≠ g2 := fun he => hne (hL.apart q q2 g ((h1.2 g).2 rfl) ((h2.2 g).2 he))
    obtain ⟨inf, hi, hz, hsz, hby⟩ := he.hi
    refine ⟨.bool false, w, ?_, Below.refl _ _, by simp [Fa.den]⟩
    have hov := Lib.run_overlaps_apart (P := P) w tS tR e he.ht sz (fun w => by simp [sizeOf, typeInfo, hi, hsz]) ⟨g, o1, none⟩ ⟨g2, o2, none⟩ la ca lb cb hgg e e cs.length cs2.length
      (by simp [World.shape?, h1.1]) (by simp [World.shape?, h2.1]) hcs (by simp [World.frozen?, h1.1]) (by simp [World.frozen?, h1.1])
    have hcf := run_callFunc_extern hf hname hbody hnx hfi #[.slice (some ⟨g, o1, none⟩) la ca, .slice (some ⟨g2, o2, none⟩) lb cb] w
    rw [hov] at hcf
    have e0 : a.eval (.func f) = .func (.func f) #[] #[] := rfl
    simp [execOp, hop, resolve, invoke, Deferred.ofValue, e0, e1, e2, hcf]) h
end
end Go.Free
