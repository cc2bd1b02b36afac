/-
  Memory that is turned: room made with spare behind its end, texts copied into it; calls that return a row of their own and a value.
-/
import Derived.Test.YtpfnclecageleaaFreeHeap7
namespace Go.Free
open Go.RowKit

theorem obj_rowH {g n cap : Nat} {cs xs : List Value} {w : World} {F : Nat → Prop} (hx : cs.take n = xs) (hn : n ≤ cs.length) (hc : n ≤ cap) (hcM : cap ≤ 9223372036854775807) (h : (obj g cs).holds w F) : rowH 1 xs w (.slice (some ⟨g, 0, none⟩) n cap) := by
  subst hx
  refine ⟨_, _, _, rfl, hc, hcM, by rw [List.length_take]; omega, (fun h => by cases h), fun j u hu => ⟨_, rfl, ?_⟩⟩
  obtain ⟨⟨e, hh⟩, _⟩ := h
  rw [List.getElem?_take] at hu
  split at hu
  · rw [add_at, Nat.zero_add]
    simp only [World.cell?, hh, Option.isSome_none, Bool.false_eq_true, if_false, List.getElem?_toArray]
    exact hu
  · cases hu
theorem madeZ (c : Nat) : madeCells (Value.int .u8 0).cells (c * 1) = (bs (List.replicate c 0)).toArray := by
  apply Array.toList_inj.1
  rw [show (Value.int .u8 0).cells = #[Value.int .u8 0] from rfl, toList_madeCells_one, Nat.mul_one]
  simp [bs]

section
variable {P : Program} {ops : Array Oper} {Q : Exit → Act → World → Prop} {n : Nat} {I : World → Prop} {k i : Nat} {E : Env} {o : Oper} {d : Bool} {A : Nat → Prop} {H : List Chunk} {key : Nat}

/-- make([]byte, l, c): room of its own -/
theorem Plan.roomC {t e : TypeId} {x y : Operand} {l c : Nat} {kl kc : IntKind} (ho : ops[i]? = some o) (hop : o.op = .makeSlice t x y) (hg : wantB ops E o = some true) (hd : ∀ d, o.dst = some d → d < n)
    (hx : opF E x = some (.ex (.int kl (l : Int)))) (hy : opF E y = some (.ex (.int kc (c : Int)))) (he : Elt P t e (.int .u8 0) 1 1) (hlc : l ≤ c) (hc : c ≤ 16777216)
    (hk : look E key = some (heap A H)) (hA : Own I A)
    (h : ∀ g, Plan P ops Q n I d k (i + 1) (setE o.dst (.ex (.slice (some ⟨g, 0, none⟩) l c)) ((key, heap A (H ++ [obj g (bs (List.replicate c 0))])) :: sieve E))) (hq : d = false ∨ (k = 0 ∧ lastB ops = true) := by first | exact .inl rfl | exact .inr ⟨rfl, by kernel_rfl⟩) : Plan P ops Q n I d (k + 1) i E :=
  Plan.turnRun ho hg hd hk hA (fun a w φ _ _ hs' hL hLA hfr => by
    have e1 := hs' x (by simp [hop, Op.operands]) _ hx
    have e2 := hs' y (by simp [hop, Op.operands]) _ hy
    simp only [Fa.den] at e1 e2
    obtain ⟨inf, hi, hz, hsz, hby⟩ := he.hi
    have hr := run_make (P := P) w t e inf (.int .u8 0) he.ht hi hz kl kc (l : Int) (c : Int) (by omega) (by omega) (by rw [hby]; omega) (by omega)
    rw [hsz, Int.toNat_natCast, Int.toNat_natCast, madeZ] at hr
    have hb : Below w.heap.size w (w.alloc (.cells (bs (List.replicate c 0)).toArray e)) := (Below.refl _ _).alloc (Nat.le_refl _) _
    have hL' := hL.add (c' := obj w.heap.size (bs (List.replicate c 0))) (F := fun b => b = w.heap.size) hb ⟨⟨e, heap_alloc_new w _⟩, fun b => Iff.rfl⟩ (fun b e => Nat.le_of_eq e.symm)
    refine ⟨.slice (some ⟨w.heap.size, 0, none⟩) l c, w.alloc (.cells (bs (List.replicate c 0)).toArray e), .ex (.slice (some ⟨w.heap.size, 0, none⟩) l c), _, _, .inl ?_, .ofBelow hb, hL', fun q b hb => ?_, by simp [Fa.den], h w.heap.size⟩
    rotate_left
    · by_cases he : q = H.length
      · simp only [if_pos he] at hb; exact hfr b (Nat.le_of_eq hb.symm)
      · simp only [if_neg he] at hb; exact hLA q b hb
    · simp only [execOp, hop, e1, e2, Sem.run_bind, hr, Result.andThen_ok, Sem.run_pure]) hq

/-- copy(room, text) of a text as long as the room -/
theorem Plan.copyStrC {x y : Operand} {t st e : TypeId} {z : Value} {g m cap q : Nat} {p : List UInt8} {cs : List Value} (ho : ops[i]? = some o) (hop : o.op = .call { callee := .builtin .copy, args := #[x, y], argTypes := #[t, st] })
    (hg : wantB ops E o = some true) (hd : ∀ d, o.dst = some d → d < n) (hx : opF E x = some (.ex (.slice (some ⟨g, 0, none⟩) m cap))) (hy : opF E y = some (.ex (str p))) (he : Elt P t e z 1 1) (hp : p.length = m) (hm : m ≤ cs.length)
    (hk : look E key = some (heap A H)) (hA : Own I A) (hqH : H[q]? = some (obj g cs))
    (h : Plan P ops Q n I d k (i + 1) (setE o.dst (.ex (.int .i64 m)) ((key, heap A (H.set q (obj g (bs p ++ cs.drop m)))) :: sieve E))) (hq : d = false ∨ (k = 0 ∧ lastB ops = true) := by first | exact .inl rfl | exact .inr ⟨rfl, by kernel_rfl⟩) : Plan P ops Q n I d (k + 1) i E :=
  Plan.turnRun ho hg hd hk hA (fun a w φ _ _ hs' hL hLA hfr => by
    have e1 := hs' x (by simp [hop, Op.operands, Call.operands]) _ hx
    have e2 := hs' y (by simp [hop, Op.operands, Call.operands]) _ hy
    simp only [Fa.den] at e1 e2
    obtain ⟨⟨e', hh⟩, hF⟩ := hL.holds q _ hqH
    obtain ⟨inf, hi, hz, hsz, hby⟩ := he.hi
    have hbl : (bs p).length = m := by rw [bs_length]; exact hp
    have hst := run_storeCells_at P g 0 e' (bs p) 0 cs.toArray w hh (by simp; omega) (fun u hu => by
      simp only [bs, List.mem_map] at hu
      obtain ⟨b, _, rfl⟩ := hu; rfl)
    simp only [Nat.add_zero, List.take_zero, List.nil_append, Nat.zero_add, hbl] at hst
    obtain ⟨w', hw'⟩ : ∃ w', w' = w.setRow g (bs p ++ cs.drop m).toArray := ⟨_, rfl⟩
    rw [← hw'] at hst
    have hK : Kept (φ q) w w' := by
      subst hw'
      exact ⟨rfl, rfl, rfl, by simp, fun kk _ hkk => setRow_other w g kk _ (fun e => hkk (by rw [e]; exact (hF g).2 rfl))⟩
    have hc2 : (obj g (bs p ++ cs.drop m)).holds w' (φ q) := ⟨⟨e', by subst hw'; exact setRow_heap w g _ _ e' _ hh⟩, hF⟩
    have hqlt : q < H.length := (List.getElem?_eq_some_iff.1 hqH).1
    have hL' := hL.upd hqlt hK hc2 (fun b hb => .inl hb)
    refine ⟨.int .i64 m, w', .ex (.int .i64 m), _, _, .inl ?_, hK.mono (fun b _ hb => hLA q b hb), hL', wide (H := H) hLA hfr (fun b hb => .inl hb), by simp [Fa.den], h⟩
    have hsz2 : (ByteArray.mk p.toArray).size = m := by simp [ByteArray.size, hp]
    have hex : (ByteArray.mk p.toArray).extract 0 m = ByteArray.mk p.toArray := by
      rw [← hsz2]; simp
    have hmap : ((ByteArray.mk p.toArray).data.map fun b => Value.int .u8 b.toNat).toList = bs p := by simp [bs]
    have hcp : (Builtin.copy_ #[t, st] o.type #[.slice (some ⟨g, 0, none⟩) m cap, str p]).run P w = .ok (goInt m) w' := by
      simp only [Builtin.copy_, str, List.getElem?_toArray, List.getElem?_cons_zero, List.getElem?_cons_succ, Sem.run_bind, run_underlying he.ht, Result.andThen_ok, Builtin.lenOf, Sem.run_pure, hsz2, Builtin.firstCells, sizeOf, typeInfo, hi, hsz]
      have hmin : Nat.min m m = m := Nat.min_self m
      simp [hi, Builtin.firstCells, hex, hst, hmap, bs]
      rw [show (storeCells ⟨g, 0, none⟩ (List.map (fun b => Value.int IntKind.u8 ↑b.toNat) p)).run P w = Result.ok () w' from hst]
      rfl
    simp only [execOp, hop, resolve, invoke, builtin, List.map_toArray, List.map_cons, List.map_nil, e1, e2, Sem.run_bind, Sem.run_pure, Result.andThen_ok, hcp]
    rfl) hq

/-- A call that returns a row of its own and a value. -/
theorem Plan.callO2 {f : FuncId} {xs : List Operand} {ts : Array TypeId} {fs : List Fa} {fn : Func} {e sz : Nat} {cs : List Value} {u2 : Value} {R : Nat → Fa} (ho : ops[i]? = some o)
    (hop : o.op = .call { callee := .value (.func f), args := xs.toArray, argTypes := ts }) (hg : wantB ops E o = some true) (hc : Spc P f fs R) (hR : ∀ B, R B = .tup [Free.own B e sz cs, .ex u2])
    (hf : P.funcs[f]? = some fn) (hbody : fn.body.isNone = false) (hname : (fn.name == "runtime.NumGoroutine") = false) (hd : ∀ d, o.dst = some d → d < n)
    (hx : Opnds I E xs fs) (hk : look E key = some (heap A H)) (hA : Own I A)
    (h : ∀ B m cap, m * sz = cs.length → Plan P ops Q n I d k (i + 1) (setE o.dst (.tup [.ex (.slice B m cap), .ex u2]) ((key, heap A (H ++ [rowC e sz B m cap cs])) :: sieve E))) (hq : d = false ∨ (k = 0 ∧ lastB ops = true) := by first | exact .inl rfl | exact .inr ⟨rfl, by kernel_rfl⟩) : Plan P ops Q n I d (k + 1) i E :=
  Plan.turn ho hg hd hk hA (fun a w φ hI hs hs' hL hLA hfr hsh => by
    unfold wpOp
    simp only [ho, wantB_spec ho hsh (fun t _ f hf => hs t f hf) hg, if_true]
    refine .inl ?_
    unfold Oper.wp
    have hrun : (execOp a.eval o).run P w = .ok (.enter f (xs.map a.eval).toArray) w := by
      have hn : ¬ fn.name = "runtime.NumGoroutine" := by simpa using hname
      have hb : ¬ fn.body = none := by intro e; rw [e] at hbody; cases hbody
      simp [execOp, hop, resolve, invoke, callFunc, Deferred.ofValue, Act.eval, hf, hb, hn]
    rw [hrun]
    simp only [Oper.upon]
    have hden := Opnds.dens (a := a) hI hx (fun x hxm f hf => hs' x (by simp [hop, Op.operands, Call.operands, hxm]) f hf)
    refine (hc w _ hden).mono ?_
    rintro ev w' ⟨v, rfl, hB, hRR⟩
    have h0 := hRR w.heap.size (Nat.le_refl _)
    rw [hR] at h0
    simp only [Fa.den, Fa.dens] at h0
    obtain ⟨xs', rfl, y, ys, rfl, hy, y2, ys2, rfl, rfl, rfl⟩ := h0
    obtain ⟨_, m, hm⟩ := hy
    have hsl : ∃ B cap, y = .slice B m cap := by
      rcases hm.2 with ⟨h1, hm0⟩ | ⟨g, cp, cur, h1, _⟩
      · exact ⟨_, _, by rw [h1, hm0]⟩
      · exact ⟨_, _, h1⟩
    obtain ⟨B, cap, rfl⟩ := hsl
    have hm0 : w'.ownsRow 0 e sz (.slice B m cap) m cs := by
      refine ⟨hm.1, ?_⟩
      rcases hm.2 with h1 | ⟨g, cp, cur, hv, hb, r⟩
      · exact .inl h1
      · exact .inr ⟨g, cp, cur, hv, Nat.zero_le _, r⟩
    have hF : ∀ b, (Value.slice B m cap).ownBlock = some b → w.heap.size ≤ b := fun b hb => (hm.lt b hb).1
    refine ⟨.tuple #[.slice B m cap, y2], .tup [.ex (.slice B m cap), .ex y2], H ++ [rowC e sz B m cap cs], _, rfl, .ofBelow hB, hL.add hB (c' := rowC e sz B m cap cs) ⟨hm0, fun _ => Iff.rfl⟩ hF, fun q b hb => ?_, by simp [Fa.den, Fa.dens], h B m cap hm.1.symm⟩
    by_cases he : q = H.length
    · simp only [if_pos he] at hb; exact hfr b (hF b hb)
    · simp only [if_neg he] at hb; exact hLA q b hb) hq
end
end Go.Free
