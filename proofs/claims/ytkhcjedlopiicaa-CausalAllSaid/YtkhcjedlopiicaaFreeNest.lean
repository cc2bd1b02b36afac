/-
  Lists of slices: a row of which each element meets a fact of its own.
-/
import Derived.Test.YtkhcjedlopiicaaFreeMore
set_option linter.unusedSimpArgs false
set_option linter.unusedVariables false
set_option maxRecDepth 20000
namespace Go.Free
open Go.RowKit

/-! ### Rows of which each element meets a fact -/
def nestR (fs : List Fa) : Fa := .is ⟨fun w v => ∃ vs, rowH 1 vs w v ∧ Fa.dens fs w vs, fun _ _ _ hb ⟨vs, h1, h2⟩ => ⟨vs, rowH_mono hb h1, Fa.monos _ _ _ _ hb h2⟩⟩
def nest (B e : Nat) (fs : List Fa) : Fa := .is ⟨fun w v => ∃ vs, ownH B e 1 vs w v ∧ Fa.dens fs w vs, fun _ _ _ hb ⟨vs, h1, h2⟩ => ⟨vs, ownH_mono hb h1, Fa.monos _ _ _ _ hb h2⟩⟩
/-- The value u is known to meet f. -/
def atF (u : Value) (f : Fa) : Fa := .is ⟨fun w _ => f.den w u, fun _ _ _ hb h => Fa.mono f _ _ u hb h⟩
/-- The address of a cell that meets f. -/
def ptrTo (f : Fa) : Fa := .is ⟨fun w v => ∃ ad u, v = .pointer (some ad) ∧ w.cell? ad = some u ∧ f.den w u,
  fun w _ _ hb ⟨ad, u, h1, h2, h3⟩ => ⟨ad, u, h1, (hb.cell (World.block_lt_of_cell? w _ h2)).trans h2, Fa.mono f _ _ u hb h3⟩⟩

theorem dens_length {w : World} : ∀ {fs : List Fa} {vs : List Value}, Fa.dens fs w vs → vs.length = fs.length
  | [], vs, h => by simp only [Fa.dens] at h; subst h; rfl
  | f :: fs, vs, h => by
    simp only [Fa.dens] at h
    obtain ⟨y, ys, rfl, _, h2⟩ := h
    simp [dens_length h2]
theorem dens_append {w : World} : ∀ {fs gs : List Fa} {vs us : List Value}, Fa.dens fs w vs → Fa.dens gs w us → Fa.dens (fs ++ gs) w (vs ++ us)
  | [], gs, vs, us, h, k => by simp only [Fa.dens] at h; subst h; exact k
  | f :: fs, gs, vs, us, h, k => by
    simp only [Fa.dens] at h
    obtain ⟨y, ys, rfl, h1, h2⟩ := h
    simp only [List.cons_append, Fa.dens]
    exact ⟨y, ys ++ us, rfl, h1, dens_append h2 k⟩
theorem dens_imp {w w' : World} : ∀ {fs : List Fa} {vs : List Value}, (∀ f ∈ fs, ∀ v, f.den w v → f.den w' v) → Fa.dens fs w vs → Fa.dens fs w' vs
  | [], _, _, h => by simpa only [Fa.dens] using h
  | f :: fs, vs, hi, h => by
    simp only [Fa.dens] at h ⊢
    obtain ⟨y, ys, rfl, h1, h2⟩ := h
    exact ⟨y, ys, rfl, hi f List.mem_cons_self y h1, dens_imp (fun g hg => hi g (List.mem_cons_of_mem _ hg)) h2⟩
theorem dens_map {α : Type} {w : World} {F G : α → Fa} (hi : ∀ l v, (F l).den w v → (G l).den w v) : ∀ {ls : List α} {vs : List Value}, Fa.dens (ls.map F) w vs → Fa.dens (ls.map G) w vs
  | [], _, h => by simpa only [List.map_nil, Fa.dens] using h
  | l :: ls, vs, h => by
    simp only [List.map_cons, Fa.dens] at h ⊢
    obtain ⟨y, ys, rfl, h1, h2⟩ := h
    exact ⟨y, ys, rfl, hi l y h1, dens_map hi h2⟩

section
variable {P : Program} {ops : Array Oper} {Q : Exit → Act → World → Prop} {n : Nat} {I : World → Prop} {k i : Nat} {E : Env} {o : Oper} {d : Bool}

theorem Sub.nestRead {B e : Nat} {fs : List Fa} : Sub I (nest B e fs) (nestR fs) := fun _ _ _ ⟨vs, h1, h2⟩ => ⟨vs, own_row h1, h2⟩
theorem Sub.nestMap {α : Type} {F G : α → Fa} {ls : List α} (h : ∀ l, Sub I (F l) (G l)) : Sub I (nestR (ls.map F)) (nestR (ls.map G)) := fun w _ hI ⟨vs, h1, h2⟩ => ⟨vs, h1, dens_map (fun l v hv => h l w v hI hv) h2⟩
theorem Sub.nestNil {B e : Nat} (hB : ∀ w, I w → B ≤ w.heap.size) : Sub I (.ex (.slice none 0 0)) (nest B e []) := fun w v hI h => ⟨[], Sub.nilOwn hB w v hI h, by simp [Fa.dens]⟩
theorem Sub.nestLower {α : Type} {B B' e : Nat} {F G : α → Fa} {ls : List α} (hB : B' ≤ B) (h : ∀ l, Sub I (F l) (G l)) : Sub I (nest B e (ls.map F)) (nest B' e (ls.map G)) := fun w _ hI ⟨vs, h1, h2⟩ => ⟨vs, own_lower h1 hB, dens_map (fun l v hv => h l w v hI hv) h2⟩

theorem Plan.lenNest {t e : TypeId} {x : Operand} {g : Fa} {fs : List Fa} (ho : ops[i]? = some o) (hop : o.op = .call { callee := .builtin .len, args := #[x], argTypes := #[t] }) (hg : wantB ops E o = some true)
    (hx : opF E x = some g) (hs : Sub I g (nestR fs)) (hu : P.underlying t = some (.slice e))
    (h : Plan P ops Q n I d k (i + 1) (setE o.dst (.ex (.int .i64 fs.length)) E)) : Plan P ops Q n I d (k + 1) i E :=
  Plan.step ho (Step.run ho hg fun a w hI hs' => by
    obtain ⟨vs, ⟨A, m, c, hv, _, _, hl, _, _⟩, hd⟩ := hs w _ hI (hs' x (by simp [hop, Op.operands, Call.operands]) _ hx)
    rw [dens_length hd, Nat.mul_one] at hl
    subst hl
    refine ⟨.int .i64 fs.length, w, ?_, Below.refl _ _, by simp [Fa.den]⟩
    have hr : (Builtin.len_ #[t] o.type #[.slice A fs.length c]).run P w = .ok (goInt fs.length) w := by simp [Builtin.len_, run_underlying hu]
    simp only [execOp, hop, resolve, invoke, builtin, List.map_toArray, List.map_cons, List.map_nil, hv, Sem.run_bind, Sem.run_pure, Result.andThen_ok, hr]
    rfl) h

theorem Plan.indexNest {t e : TypeId} {z : Value} {bytes : Nat} {x y : Operand} {g f : Fa} {kd : IntKind} {q : Nat} {fs : List Fa} (ho : ops[i]? = some o) (hop : o.op = .indexAddr t x y)
    (hg : wantB ops E o = some true) (hx : opF E x = some g) (hs : Sub I g (nestR fs)) (hy : opF E y = some (.ex (.int kd (q : Int)))) (he : Elt P t e z 1 bytes) (hq : fs[q]? = some f)
    (h : Plan P ops Q n I d k (i + 1) (setE o.dst (ptrTo f) E)) : Plan P ops Q n I d (k + 1) i E :=
  Plan.step ho (Step.run ho hg fun a w hI hs' => by
    obtain ⟨vs, ⟨A, m, c, hv, _, _, hl, _, hcell⟩, hd⟩ := hs w _ hI (hs' x (by simp [hop, Op.operands]) _ hx)
    have e2 := hs' y (by simp [hop, Op.operands]) _ hy
    simp only [Fa.den] at e2
    obtain ⟨inf, hi, hz, hs1, hby⟩ := he.hi
    rw [dens_length hd, Nat.mul_one] at hl
    have hlt : q < fs.length := (List.getElem?_eq_some_iff.1 hq).1
    obtain ⟨u, hu, hden⟩ := dens_get hd hq
    obtain ⟨ad, rfl, hc⟩ := hcell q u hu
    refine ⟨.pointer (some (ad.add q)), w, ?_, Below.refl _ _, ⟨_, u, rfl, hc, hden⟩⟩
    have hj2 : q < m := by omega
    simp [execOp, hop, hv, e2, Instr.indexAt, asIntOf, run_underlying he.ht, sizeOf, typeInfo, hi, hs1, hj2]) h

theorem Plan.loadNest {t : TypeId} {u : TypeDesc} {x : Operand} {g f : Fa} (ho : ops[i]? = some o) (hop : o.op = .load t x) (hg : wantB ops E o = some true)
    (hx : opF E x = some g) (hs : Sub I g (ptrTo f)) (hu : P.underlying t = some u) (hna : aggB u = false)
    (h : Plan P ops Q n I d k (i + 1) (setE o.dst f E)) : Plan P ops Q n I d (k + 1) i E :=
  Plan.step ho (Step.run ho hg fun a w hI hs' => by
    obtain ⟨ad, v, hv, hc, hden⟩ := hs w _ hI (hs' x (by simp [hop, Op.operands]) _ hx)
    refine ⟨v, w, ?_, Below.refl _ _, hden⟩
    have hagg : (isAgg t).run P w = .ok false w := by
      cases u <;> simp [aggB] at hna <;> simp [isAgg, run_underlying hu]
    simp [execOp, hop, hv, Instr.loadAt, Instr.sureAddr, loadVar, hagg, run_load, hc]) h

/-- A slot's value is named; that it meets its fact stands under a key of its own. -/
theorem J.name {c : Code} {t key : Nat} {f : Fa} (hf : look E t = some f) (h : ∀ u, J P n I c Q ((t, .ex u) :: (key, atF u f) :: E)) : J P n I c Q E := fun a w h1 h2 h3 =>
  h (a.slot t) a w h1 h2 (derive_sat (f := .ex (a.slot t)) (derive_sat (t := key) (f := atF (a.slot t) f) h3 (h3 t f hf)) (by simp [Fa.den]))

theorem J.nameOwn {c : Code} {t key B e sz : Nat} {cs : List Value} {f : Fa} (hf : look E t = some f) (hs : Sub I f (Free.own B e sz cs))
    (h : ∀ u, u.oneCell' = true → flat [u] = [u] → (∀ v ∈ [u], v.cells.size = 1) → J P n I c Q ((t, .ex u) :: (key, atF u (Free.own B e sz cs)) :: E)) : J P n I c Q E := fun a w h1 h2 h3 => by
  have hd : (Free.own B e sz cs).den w (a.slot t) := hs w _ h1 (h3 t f hf)
  have hsl : ∃ A m c, a.slot t = .slice A m c := by
    obtain ⟨_, m, hm⟩ := hd
    rcases hm.2 with ⟨h0, _⟩ | ⟨g, cap, cur, h0, _⟩
    · exact ⟨_, _, _, h0⟩
    · exact ⟨_, _, _, h0⟩
  obtain ⟨A, m, c', hv⟩ := hsl
  exact h (a.slot t) (by rw [hv]; rfl) (by rw [hv]; rfl) (by rw [hv]; simp [Value.cells]) a w h1 h2 (derive_sat (f := .ex (a.slot t)) (derive_sat (t := key) (f := atF (a.slot t) (Free.own B e sz cs)) h3 hd) (by simp [Fa.den]))

/-- What is kept where a row of elements of type e of the call's own is turned. -/
def Apart (e : Nat) (g : Fa) : Prop := ∀ w w' v u B xs, ownH B e 1 xs w v → w.grownBy w' v.ownBlock → g.den w u → g.den w' u
theorem Apart.own {e B' e' sz' : Nat} {cs : List Value} (h : e' ≠ e) : Apart e (own B' e' sz' cs) := fun w w' v u B xs hv hg hu => by
  obtain ⟨hB, m, hm⟩ := hu
  refine ⟨Nat.le_trans hB hg.size, m, hm.kept hg ?_⟩
  rcases hm.2 with ⟨rfl, _⟩ | ⟨g, cap, cur, rfl, _, hh, _⟩
  · exact .inl rfl
  · right
    obtain ⟨_, m2, hm2⟩ := hv
    rcases hm2.2 with ⟨rfl, _⟩ | ⟨g2, cap2, cur2, rfl, _, hh2, _⟩
    · simp [Value.ownBlock]
    · simp only [Value.ownBlock, ne_eq, Option.some.injEq]
      rintro rfl
      rw [hh] at hh2
      cases hh2
      exact h rfl

/-- append(list, element) -/
theorem Plan.appendNest {x y : Operand} {t e : TypeId} {z : Value} {bytes B key : Nat} {fs : List Fa} {f fx fy : Fa} {u : Value} (ho : ops[i]? = some o) (hop : o.op = .call { callee := .builtin .append, args := #[x, y], argTypes := #[t, t] })
    (hg : wantB ops E o = some true) (hx : opF E x = some fx) (hfs : Sub I fx (nest B e fs)) (hy : opF E y = some fy) (hs : Sub I fy (row 1 [u])) (hu : look E key = some (atF u f)) (h1 : u.oneCell' = true)
    (he : Elt P t e z 1 bytes) (hd : ∀ d, o.dst = some d → d < n)
    (hG : ∀ w w' r, I w → w.grownBy w' r → (∀ b, r = some b → B ≤ b) → I w') (hlim : (fs.length + 1) * bytes ≤ 140737488355328) (hap : ∀ g ∈ fs ++ [f], Apart e g)
    (h : Plan P ops Q n I d k (i + 1) (setE o.dst (nest B e (fs ++ [f])) (sieve E))) (hq : d = false ∨ barB ops i = true := by first | exact .inl rfl | exact .inr (by kernel_rfl)) : Plan P ops Q n I d (k + 1) i E :=
  Plan.eff ho hg hd (fun a w hI hS hs' => by
    obtain ⟨vs, e1, ed⟩ := hfs w _ hI (hs' x (by simp [hop, Op.operands, Call.operands]) _ hx)
    have e2 := hs w _ hI (hs' y (by simp [hop, Op.operands, Call.operands]) _ hy)
    have e3 : f.den w u := hS key _ hu
    have hl := dens_length ed
    obtain ⟨v', w', hr, h2, h3⟩ := run_append_rows (ty := o.type) he e1 e2 (by simpa using h1) (by simp only [List.length_singleton, Nat.mul_one]; rw [hl]; exact hlim)
    refine ⟨v', w', .inl ?_, hG w w' _ hI h3 ?_, ⟨vs ++ [u], h2, dens_append (dens_imp (fun g hg v hv => hap g (List.mem_append_left _ hg) w w' _ v _ _ e1 h3 hv) ed) ⟨u, [], rfl, hap f (by simp) w w' _ u _ _ e1 h3 e3, rfl⟩⟩⟩
    · simp only [execOp, hop, resolve, invoke, builtin, List.map_toArray, List.map_cons, List.map_nil, Sem.run_bind, Sem.run_pure, Result.andThen_ok, hr]
    · intro b hb
      obtain ⟨_, m, hm⟩ := e1
      exact (hm.lt b hb).1) hq h

/-! ### A mark: what is known now stays known, whatever memory that comes later is turned -/
def markE (w1 : World) : Env → Env
  | [] => []
  | (t, f) :: r => (t, keepOld w1 f) :: markE w1 r
theorem look_markE {w1 : World} : ∀ {E : Env} {t : Nat} {f : Fa}, look (markE w1 E) t = some f → ∃ g, look E t = some g ∧ f = keepOld w1 g
  | [], _, _, h => by simp [markE, look] at h
  | (s, g) :: r, t, f, h => by
    simp only [markE, look] at h ⊢
    by_cases hs : s = t
    · rw [if_pos hs] at h ⊢
      exact ⟨g, rfl, (Option.some.inj h).symm⟩
    · rw [if_neg hs] at h ⊢
      exact look_markE h
theorem J.mark {c : Code} (h : ∀ w1, I w1 → J P n (fun w => Below w1.heap.size w1 w) c Q (markE w1 E)) : J P n I c Q E := fun a w h1 h2 h3 =>
  h w h1 a w (Below.refl _ _) h2 fun t f hf => by
    obtain ⟨g, hg, rfl⟩ := look_markE hf
    exact keepOld_den (h3 t g hg)
end
end Go.Free
