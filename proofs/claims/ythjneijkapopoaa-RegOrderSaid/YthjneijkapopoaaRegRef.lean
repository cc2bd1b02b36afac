/-
  The latest one of events, as the document says it by its own code; the values of both.
-/
import Derived.Test.YthjneijkapopoaaRegFns
namespace Go.Proofs.Ythjneijkapopoaa
open Go.Free Go.RowKit Go.Proofs
set_option maxHeartbeats 4000000

theorem later_iff {b a : EvV} : later b a = true ↔ (a.time < b.time ∨ (a.time = b.time ∧ (a.r < b.r ∨ (a.r = b.r ∧ a.n < b.n)))) := by unfold later; exact decide_eq_true_iff
theorem later_via {x p e : EvV} (h : later x p = true) (k : later x e = false) : later e p = true := by
  rw [← Bool.not_eq_true] at k
  rw [later_iff] at h k ⊢
  omega
theorem topOf_stay (e : EvV) : ∀ l, (∀ x ∈ l, later x e = false) → topOf e l = e
  | [], _ => rfl
  | x :: l, h => by
    simp only [topOf, h x List.mem_cons_self, Bool.false_eq_true, if_false]
    exact topOf_stay e l (fun y hy => h y (List.mem_cons_of_mem _ hy))
theorem topOf_to (e : EvV) (post : List EvV) (hp : ∀ x ∈ post, later x e = false) : ∀ (pre : List EvV) (t : EvV), later e t = true → (∀ p ∈ pre, later e p = true) → topOf t (pre ++ e :: post) = e
  | [], t, h, _ => by simp only [List.nil_append, topOf, h, if_true]; exact topOf_stay e post hp
  | p :: pre, t, h, hpre => by
    simp only [List.cons_append, topOf]
    refine topOf_to e post hp pre _ ?_ (fun q hq => hpre q (List.mem_cons_of_mem _ hq))
    split
    · exact hpre p List.mem_cons_self
    · exact h
theorem latest_first {pre post : List EvV} {e : EvV} (h1 : ∀ p ∈ pre, later e p = true) (h2 : ∀ x ∈ post, later x e = false) : latestV (pre ++ e :: post) = e := by
  cases pre with
  | nil => exact topOf_stay e post h2
  | cons p pre => exact topOf_to e post h2 pre p (h1 p List.mem_cons_self) (fun q hq => h1 q (List.mem_cons_of_mem _ hq))
theorem topOf_mem : ∀ (l : List EvV) (t : EvV), topOf t l = t ∨ topOf t l ∈ l
  | [], _ => .inl rfl
  | x :: l, t => by
    simp only [topOf]
    rcases topOf_mem l (if later x t then x else t) with h | h
    · rw [h]; split
      · exact .inr List.mem_cons_self
      · exact .inl rfl
    · exact .inr (List.mem_cons_of_mem _ h)
theorem later_irrefl (e : EvV) : later e e = false := by rw [← Bool.not_eq_true, later_iff]; omega
theorem later_trans {a b c : EvV} (h : later c b = true) (k : later b a = true) : later c a = true := by rw [later_iff] at *; omega
theorem later_asymm {a b : EvV} (h : later b a = true) : later a b = false := by rw [← Bool.not_eq_true]; rw [later_iff] at *; omega
theorem topOf_max : ∀ (l : List EvV) (t : EvV), (∀ x ∈ l, later x (topOf t l) = false) ∧ later t (topOf t l) = false
  | [], t => ⟨by simp, later_irrefl t⟩
  | y :: l, t => by
    simp only [topOf]
    obtain ⟨h1, h2⟩ := topOf_max l (if later y t then y else t)
    by_cases hy : later y t = true
    · rw [if_pos hy] at h1 h2 ⊢
      refine ⟨fun x hx => ?_, ?_⟩
      · rcases List.mem_cons.1 hx with rfl | hx
        · exact h2
        · exact h1 x hx
      · rw [← Bool.not_eq_true] at h2 ⊢; rw [later_iff] at *; omega
    · rw [if_neg hy] at h1 h2 ⊢
      rw [Bool.not_eq_true] at hy
      refine ⟨fun x hx => ?_, h2⟩
      rcases List.mem_cons.1 hx with rfl | hx
      · rw [← Bool.not_eq_true] at h2 hy ⊢; rw [later_iff] at *; omega
      · exact h1 x hx
theorem latest_mem {es : List EvV} (h : es ≠ []) : latestV es ∈ es := by
  cases es with
  | nil => exact absurd rfl h
  | cons e r =>
    rcases topOf_mem r e with k | k
    · show topOf e r ∈ _; rw [k]; exact List.mem_cons_self
    · exact List.mem_cons_of_mem _ k
theorem latest_max (es : List EvV) : ∀ x ∈ es, later x (latestV es) = false := by
  cases es with
  | nil => simp
  | cons e r =>
    intro x hx
    rcases List.mem_cons.1 hx with rfl | hx
    · exact (topOf_max r x).2
    · exact (topOf_max r e).1 x hx
theorem latest_at {es : List EvV} {i : Nat} (h : i < es.length) (h1 : ∀ j, j < i → ∃ x ∈ es, later x (es.getD j ev0) = true) (h2 : ∀ x ∈ es, later x es[i] = false) : latestV es = es[i] := by
  have hs : es = es.take i ++ es[i] :: es.drop (i + 1) := by rw [← List.drop_eq_getElem_cons h, List.take_append_drop]
  conv => lhs; rw [hs]
  refine latest_first (fun p hp => ?_) (fun x hx => h2 x (List.mem_of_mem_drop hx))
  obtain ⟨j, hj⟩ := List.getElem?_of_mem hp
  rw [List.getElem?_take] at hj
  split at hj
  · rename_i hji
    obtain ⟨x, hx, hl⟩ := h1 j hji
    rw [List.getD_eq_getElem?_getD, hj, Option.getD_some] at hl
    exact later_via hl (h2 x hx)
  · cases hj

def rlE (w0 : World) (es : List EvV) (a : Nat) (i : Nat) : Env :=
  [(0, old w0 (evsF es)), (2, .ex (ptr a)), (8, .ex (vi es.length)), (9, .ex (vi i)), (1000, heap (newB w0) [obj a ev0.enc])]
def rkE (w0 : World) (es : List EvV) (a : Nat) (i : Nat) (s : Nat × Bool) : Env :=
  [(0, old w0 (evsF es)), (2, .ex (ptr a)), (4, .ex (vi i)), (5, .ex (.bool s.2)), (8, .ex (vi es.length)), (9, .ex (vi i)), (13, .ex (vi es.length)), (14, .ex (vi s.1)), (1000, heap (newB w0) [obj a ev0.enc])]
theorem ref_Latest (es : List EvV) (hl : es.length ≤ 9223372036854775807) : Spc Try.prog 15 [evsF es] fun _ => .tup [.ex (aggE (latestV es)), .ex (.bool (decide (0 < es.length)))] := by
  refine Spc.intro Try.func15 rfl (Nat.le_of_ble_eq_true rfl) fun w0 => ?_
  have hI := hIb w0
  have hA := Own.below w0
  refine J.heap0 1000 (newB w0) ?_
  repeat (first
    | refine Plan.move rfl rfl rfl rfl ?_
    | refine Plan.assign rfl rfl rfl rfl ?_
    | refine Plan.skip rfl rfl ?_
    | refine Plan.extract rfl rfl rfl rfl rfl ?_
    | refine Plan.pick rfl rfl rfl rfl rfl ?_
    | refine Plan.lenStr rfl rfl rfl rfl Try.underlying9 ?_
    | refine Plan.lenE rfl rfl rfl rfl Try.underlying40 ?_
    | (refine Plan.ints rfl rfl rfl rfl rfl rfl ?_; (first | refine Plan.int (i64u8 _) ?_ | refine Plan.int (i64r (by omega)) ?_ | refine Plan.int (u64r (by omega)) ?_ | refine Plan.int (u8r (by omega)) ?_ | refine Plan.int (u16r (by omega)) ?_ | refine Plan.int (quoN (by omega)) ?_ | refine Plan.int (remN _ _) ?_ | refine Plan.int (u8N _) ?_ | skip))
    | refine Plan.un rfl rfl rfl rfl rfl ?_
    | refine Plan.lenB rfl rfl rfl rfl (by first | exact Sub.refl _ | exact Sub.own | exact Sub.old (fun _ h => h) | exact Sub.oldOwn (fun _ h => h) | exact Sub.nilRow | exact Sub.ownLower hB | exact Sub.nilOwn (fun _ h => Nat.le_trans hB h.size)) Try.underlying40 ?_
    | (refine Plan.convInt rfl rfl rfl rfl (by first | exact Try.underlying2 | exact Try.underlying3 | exact Try.underlying5 | exact Try.underlying21 | exact Try.underlying37 | exact Try.underlying41 | exact Try.underlying59 | exact Try.underlying102) (by first | exact Try.underlying2 | exact Try.underlying3 | exact Try.underlying5 | exact Try.underlying21 | exact Try.underlying37 | exact Try.underlying41 | exact Try.underlying59 | exact Try.underlying102) ?_; (first | refine Plan.int (i64u8 _) ?_ | refine Plan.int (i64r (by omega)) ?_ | refine Plan.int (u64r (by omega)) ?_ | refine Plan.int (u8r (by omega)) ?_ | refine Plan.int (u16r (by omega)) ?_ | refine Plan.int (quoN (by omega)) ?_ | refine Plan.int (remN _ _) ?_ | refine Plan.int (u8N _) ?_ | skip))
    | refine Plan.nilOk rfl rfl rfl rfl ?_
    | refine Plan.fieldC rfl rfl rfl rfl (by first | exact Try.underlying25 | exact Try.underlying29 | exact Try.underlying31 | exact Try.underlying61 | exact Try.underlying75) rfl (by kernel_rfl) (by first | exact (rfl : _ = 0) | exact (rfl : _ = 1) | exact (rfl : _ = 2) | exact (rfl : _ = 3) | exact (rfl : _ = 4) | exact (rfl : _ = 5) | exact (rfl : _ = 6) | exact (rfl : _ = 7) | exact (rfl : _ = 8) | exact (rfl : _ = 9) | exact (rfl : _ = 10) | exact (rfl : _ = 11) | exact (rfl : _ = 12) | exact (rfl : _ = 13) | exact (rfl : _ = 14) | exact (rfl : _ = 15) | exact (rfl : _ = 16) | exact (rfl : _ = 17) | exact (rfl : _ = 18) | exact (rfl : _ = 19) | exact (rfl : _ = 20) | exact (rfl : _ = 21) | exact (rfl : _ = 22) | exact (rfl : _ = 23) | exact (rfl : _ = 24) | exact (rfl : _ = 25)) ?_
    | refine Plan.loadC (key := 1000) (q := 0) rfl rfl rfl rfl rfl rfl (obj_reads1 rfl) (by first | exact Try.underlying3 | exact Try.underlying9 | exact Try.underlying40 | exact Try.underlying4 | exact Try.underlying5 | exact Try.underlying41 | exact Try.underlying22 | exact Try.underlying57) (by rfl) (by decide) ?_
    | refine Plan.loadC (key := 1000) (q := 1) rfl rfl rfl rfl rfl rfl (obj_reads1 rfl) (by first | exact Try.underlying3 | exact Try.underlying9 | exact Try.underlying40 | exact Try.underlying4 | exact Try.underlying5 | exact Try.underlying41 | exact Try.underlying22 | exact Try.underlying57) (by rfl) (by decide) ?_
    | refine Plan.loadC (key := 1000) (q := 2) rfl rfl rfl rfl rfl rfl (obj_reads1 rfl) (by first | exact Try.underlying3 | exact Try.underlying9 | exact Try.underlying40 | exact Try.underlying4 | exact Try.underlying5 | exact Try.underlying41 | exact Try.underlying22 | exact Try.underlying57) (by rfl) (by decide) ?_
    | refine Plan.eqlPtr rfl rfl rfl rfl (by kernel_rfl) ?_
    | refine Plan.neqPtr rfl rfl rfl rfl (by kernel_rfl) ?_
    | refine J.seq (J.region mixed hI (by kernel_rfl) ?_)
    | refine J.region mixed hI (by kernel_rfl) ?_
    | refine J.seq (J.seq (J.region mixed hI (by kernel_rfl) ?_))
    | refine J.condF rfl ?_
    | refine J.condT rfl ?_
    | refine J.skip ?_)
  refine Plan.allocC (key := 1000) (z := aggE ev0) rfl rfl rfl (by intro _ e; cases e; decide) (by kernel_rfl) rfl hA fun a => ?_
  repeat (first
    | refine Plan.move rfl rfl rfl rfl ?_
    | refine Plan.assign rfl rfl rfl rfl ?_
    | refine Plan.skip rfl rfl ?_
    | refine Plan.extract rfl rfl rfl rfl rfl ?_
    | refine Plan.pick rfl rfl rfl rfl rfl ?_
    | refine Plan.lenStr rfl rfl rfl rfl Try.underlying9 ?_
    | refine Plan.lenE rfl rfl rfl rfl Try.underlying40 ?_
    | (refine Plan.ints rfl rfl rfl rfl rfl rfl ?_; (first | refine Plan.int (i64u8 _) ?_ | refine Plan.int (i64r (by omega)) ?_ | refine Plan.int (u64r (by omega)) ?_ | refine Plan.int (u8r (by omega)) ?_ | refine Plan.int (u16r (by omega)) ?_ | refine Plan.int (quoN (by omega)) ?_ | refine Plan.int (remN _ _) ?_ | refine Plan.int (u8N _) ?_ | skip))
    | refine Plan.un rfl rfl rfl rfl rfl ?_
    | refine Plan.lenB rfl rfl rfl rfl (by first | exact Sub.refl _ | exact Sub.own | exact Sub.old (fun _ h => h) | exact Sub.oldOwn (fun _ h => h) | exact Sub.nilRow | exact Sub.ownLower hB | exact Sub.nilOwn (fun _ h => Nat.le_trans hB h.size)) Try.underlying40 ?_
    | (refine Plan.convInt rfl rfl rfl rfl (by first | exact Try.underlying2 | exact Try.underlying3 | exact Try.underlying5 | exact Try.underlying21 | exact Try.underlying37 | exact Try.underlying41 | exact Try.underlying59 | exact Try.underlying102) (by first | exact Try.underlying2 | exact Try.underlying3 | exact Try.underlying5 | exact Try.underlying21 | exact Try.underlying37 | exact Try.underlying41 | exact Try.underlying59 | exact Try.underlying102) ?_; (first | refine Plan.int (i64u8 _) ?_ | refine Plan.int (i64r (by omega)) ?_ | refine Plan.int (u64r (by omega)) ?_ | refine Plan.int (u8r (by omega)) ?_ | refine Plan.int (u16r (by omega)) ?_ | refine Plan.int (quoN (by omega)) ?_ | refine Plan.int (remN _ _) ?_ | refine Plan.int (u8N _) ?_ | skip))
    | refine Plan.nilOk rfl rfl rfl rfl ?_
    | refine Plan.fieldC rfl rfl rfl rfl (by first | exact Try.underlying25 | exact Try.underlying29 | exact Try.underlying31 | exact Try.underlying61 | exact Try.underlying75) rfl (by kernel_rfl) (by first | exact (rfl : _ = 0) | exact (rfl : _ = 1) | exact (rfl : _ = 2) | exact (rfl : _ = 3) | exact (rfl : _ = 4) | exact (rfl : _ = 5) | exact (rfl : _ = 6) | exact (rfl : _ = 7) | exact (rfl : _ = 8) | exact (rfl : _ = 9) | exact (rfl : _ = 10) | exact (rfl : _ = 11) | exact (rfl : _ = 12) | exact (rfl : _ = 13) | exact (rfl : _ = 14) | exact (rfl : _ = 15) | exact (rfl : _ = 16) | exact (rfl : _ = 17) | exact (rfl : _ = 18) | exact (rfl : _ = 19) | exact (rfl : _ = 20) | exact (rfl : _ = 21) | exact (rfl : _ = 22) | exact (rfl : _ = 23) | exact (rfl : _ = 24) | exact (rfl : _ = 25)) ?_
    | refine Plan.loadC (key := 1000) (q := 0) rfl rfl rfl rfl rfl rfl (obj_reads1 rfl) (by first | exact Try.underlying3 | exact Try.underlying9 | exact Try.underlying40 | exact Try.underlying4 | exact Try.underlying5 | exact Try.underlying41 | exact Try.underlying22 | exact Try.underlying57) (by rfl) (by decide) ?_
    | refine Plan.loadC (key := 1000) (q := 1) rfl rfl rfl rfl rfl rfl (obj_reads1 rfl) (by first | exact Try.underlying3 | exact Try.underlying9 | exact Try.underlying40 | exact Try.underlying4 | exact Try.underlying5 | exact Try.underlying41 | exact Try.underlying22 | exact Try.underlying57) (by rfl) (by decide) ?_
    | refine Plan.loadC (key := 1000) (q := 2) rfl rfl rfl rfl rfl rfl (obj_reads1 rfl) (by first | exact Try.underlying3 | exact Try.underlying9 | exact Try.underlying40 | exact Try.underlying4 | exact Try.underlying5 | exact Try.underlying41 | exact Try.underlying22 | exact Try.underlying57) (by rfl) (by decide) ?_
    | refine Plan.eqlPtr rfl rfl rfl rfl (by kernel_rfl) ?_
    | refine Plan.neqPtr rfl rfl rfl rfl (by kernel_rfl) ?_
    | refine J.seq (J.region mixed hI (by kernel_rfl) ?_)
    | refine J.region mixed hI (by kernel_rfl) ?_
    | refine J.seq (J.seq (J.region mixed hI (by kernel_rfl) ?_))
    | refine J.condF rfl ?_
    | refine J.condT rfl ?_
    | refine J.skip ?_)
  refine Plan.lenRow (m := es.length) rfl rfl rfl rfl (Sub.old fun _ h => h) Try.underlying22 (by rw [flatMap_length _ 26 encE]) (by decide) ?_
  repeat (first
    | refine Plan.move rfl rfl rfl rfl ?_
    | refine Plan.assign rfl rfl rfl rfl ?_
    | refine Plan.skip rfl rfl ?_
    | refine Plan.extract rfl rfl rfl rfl rfl ?_
    | refine Plan.pick rfl rfl rfl rfl rfl ?_
    | refine Plan.lenStr rfl rfl rfl rfl Try.underlying9 ?_
    | refine Plan.lenE rfl rfl rfl rfl Try.underlying40 ?_
    | (refine Plan.ints rfl rfl rfl rfl rfl rfl ?_; (first | refine Plan.int (i64u8 _) ?_ | refine Plan.int (i64r (by omega)) ?_ | refine Plan.int (u64r (by omega)) ?_ | refine Plan.int (u8r (by omega)) ?_ | refine Plan.int (u16r (by omega)) ?_ | refine Plan.int (quoN (by omega)) ?_ | refine Plan.int (remN _ _) ?_ | refine Plan.int (u8N _) ?_ | skip))
    | refine Plan.un rfl rfl rfl rfl rfl ?_
    | refine Plan.lenB rfl rfl rfl rfl (by first | exact Sub.refl _ | exact Sub.own | exact Sub.old (fun _ h => h) | exact Sub.oldOwn (fun _ h => h) | exact Sub.nilRow | exact Sub.ownLower hB | exact Sub.nilOwn (fun _ h => Nat.le_trans hB h.size)) Try.underlying40 ?_
    | (refine Plan.convInt rfl rfl rfl rfl (by first | exact Try.underlying2 | exact Try.underlying3 | exact Try.underlying5 | exact Try.underlying21 | exact Try.underlying37 | exact Try.underlying41 | exact Try.underlying59 | exact Try.underlying102) (by first | exact Try.underlying2 | exact Try.underlying3 | exact Try.underlying5 | exact Try.underlying21 | exact Try.underlying37 | exact Try.underlying41 | exact Try.underlying59 | exact Try.underlying102) ?_; (first | refine Plan.int (i64u8 _) ?_ | refine Plan.int (i64r (by omega)) ?_ | refine Plan.int (u64r (by omega)) ?_ | refine Plan.int (u8r (by omega)) ?_ | refine Plan.int (u16r (by omega)) ?_ | refine Plan.int (quoN (by omega)) ?_ | refine Plan.int (remN _ _) ?_ | refine Plan.int (u8N _) ?_ | skip))
    | refine Plan.nilOk rfl rfl rfl rfl ?_
    | refine Plan.fieldC rfl rfl rfl rfl (by first | exact Try.underlying25 | exact Try.underlying29 | exact Try.underlying31 | exact Try.underlying61 | exact Try.underlying75) rfl (by kernel_rfl) (by first | exact (rfl : _ = 0) | exact (rfl : _ = 1) | exact (rfl : _ = 2) | exact (rfl : _ = 3) | exact (rfl : _ = 4) | exact (rfl : _ = 5) | exact (rfl : _ = 6) | exact (rfl : _ = 7) | exact (rfl : _ = 8) | exact (rfl : _ = 9) | exact (rfl : _ = 10) | exact (rfl : _ = 11) | exact (rfl : _ = 12) | exact (rfl : _ = 13) | exact (rfl : _ = 14) | exact (rfl : _ = 15) | exact (rfl : _ = 16) | exact (rfl : _ = 17) | exact (rfl : _ = 18) | exact (rfl : _ = 19) | exact (rfl : _ = 20) | exact (rfl : _ = 21) | exact (rfl : _ = 22) | exact (rfl : _ = 23) | exact (rfl : _ = 24) | exact (rfl : _ = 25)) ?_
    | refine Plan.loadC (key := 1000) (q := 0) rfl rfl rfl rfl rfl rfl (obj_reads1 rfl) (by first | exact Try.underlying3 | exact Try.underlying9 | exact Try.underlying40 | exact Try.underlying4 | exact Try.underlying5 | exact Try.underlying41 | exact Try.underlying22 | exact Try.underlying57) (by rfl) (by decide) ?_
    | refine Plan.loadC (key := 1000) (q := 1) rfl rfl rfl rfl rfl rfl (obj_reads1 rfl) (by first | exact Try.underlying3 | exact Try.underlying9 | exact Try.underlying40 | exact Try.underlying4 | exact Try.underlying5 | exact Try.underlying41 | exact Try.underlying22 | exact Try.underlying57) (by rfl) (by decide) ?_
    | refine Plan.loadC (key := 1000) (q := 2) rfl rfl rfl rfl rfl rfl (obj_reads1 rfl) (by first | exact Try.underlying3 | exact Try.underlying9 | exact Try.underlying40 | exact Try.underlying4 | exact Try.underlying5 | exact Try.underlying41 | exact Try.underlying22 | exact Try.underlying57) (by rfl) (by decide) ?_
    | refine Plan.eqlPtr rfl rfl rfl rfl (by kernel_rfl) ?_
    | refine Plan.neqPtr rfl rfl rfl rfl (by kernel_rfl) ?_
    | refine J.seq (J.region mixed hI (by kernel_rfl) ?_)
    | refine J.region mixed hI (by kernel_rfl) ?_
    | refine J.seq (J.seq (J.region mixed hI (by kernel_rfl) ?_))
    | refine J.condF rfl ?_
    | refine J.condT rfl ?_
    | refine J.skip ?_)
  refine J.block (J.loop (rlE w0 es a) (fun i => i ≤ es.length ∧ ∀ j, j < i → ∃ x ∈ es, later x (es.getD j ev0) = true) (fun i => es.length - i) 0 ⟨Nat.zero_le _, fun j hj => absurd hj (Nat.not_lt_zero _)⟩ ?_ ?_)
  · repeat (first | exact Weak.nil | refine Weak.cons rfl (Sub.refl _) ?_)
  rintro i ⟨hi, hbefore⟩
  repeat (first
    | refine Plan.move rfl rfl rfl rfl ?_
    | refine Plan.assign rfl rfl rfl rfl ?_
    | refine Plan.skip rfl rfl ?_
    | refine Plan.extract rfl rfl rfl rfl rfl ?_
    | refine Plan.pick rfl rfl rfl rfl rfl ?_
    | refine Plan.lenStr rfl rfl rfl rfl Try.underlying9 ?_
    | refine Plan.lenE rfl rfl rfl rfl Try.underlying40 ?_
    | (refine Plan.ints rfl rfl rfl rfl rfl rfl ?_; (first | refine Plan.int (i64u8 _) ?_ | refine Plan.int (i64r (by omega)) ?_ | refine Plan.int (u64r (by omega)) ?_ | refine Plan.int (u8r (by omega)) ?_ | refine Plan.int (u16r (by omega)) ?_ | refine Plan.int (quoN (by omega)) ?_ | refine Plan.int (remN _ _) ?_ | refine Plan.int (u8N _) ?_ | skip))
    | refine Plan.un rfl rfl rfl rfl rfl ?_
    | refine Plan.lenB rfl rfl rfl rfl (by first | exact Sub.refl _ | exact Sub.own | exact Sub.old (fun _ h => h) | exact Sub.oldOwn (fun _ h => h) | exact Sub.nilRow | exact Sub.ownLower hB | exact Sub.nilOwn (fun _ h => Nat.le_trans hB h.size)) Try.underlying40 ?_
    | (refine Plan.convInt rfl rfl rfl rfl (by first | exact Try.underlying2 | exact Try.underlying3 | exact Try.underlying5 | exact Try.underlying21 | exact Try.underlying37 | exact Try.underlying41 | exact Try.underlying59 | exact Try.underlying102) (by first | exact Try.underlying2 | exact Try.underlying3 | exact Try.underlying5 | exact Try.underlying21 | exact Try.underlying37 | exact Try.underlying41 | exact Try.underlying59 | exact Try.underlying102) ?_; (first | refine Plan.int (i64u8 _) ?_ | refine Plan.int (i64r (by omega)) ?_ | refine Plan.int (u64r (by omega)) ?_ | refine Plan.int (u8r (by omega)) ?_ | refine Plan.int (u16r (by omega)) ?_ | refine Plan.int (quoN (by omega)) ?_ | refine Plan.int (remN _ _) ?_ | refine Plan.int (u8N _) ?_ | skip))
    | refine Plan.nilOk rfl rfl rfl rfl ?_
    | refine Plan.fieldC rfl rfl rfl rfl (by first | exact Try.underlying25 | exact Try.underlying29 | exact Try.underlying31 | exact Try.underlying61 | exact Try.underlying75) rfl (by kernel_rfl) (by first | exact (rfl : _ = 0) | exact (rfl : _ = 1) | exact (rfl : _ = 2) | exact (rfl : _ = 3) | exact (rfl : _ = 4) | exact (rfl : _ = 5) | exact (rfl : _ = 6) | exact (rfl : _ = 7) | exact (rfl : _ = 8) | exact (rfl : _ = 9) | exact (rfl : _ = 10) | exact (rfl : _ = 11) | exact (rfl : _ = 12) | exact (rfl : _ = 13) | exact (rfl : _ = 14) | exact (rfl : _ = 15) | exact (rfl : _ = 16) | exact (rfl : _ = 17) | exact (rfl : _ = 18) | exact (rfl : _ = 19) | exact (rfl : _ = 20) | exact (rfl : _ = 21) | exact (rfl : _ = 22) | exact (rfl : _ = 23) | exact (rfl : _ = 24) | exact (rfl : _ = 25)) ?_
    | refine Plan.loadC (key := 1000) (q := 0) rfl rfl rfl rfl rfl rfl (obj_reads1 rfl) (by first | exact Try.underlying3 | exact Try.underlying9 | exact Try.underlying40 | exact Try.underlying4 | exact Try.underlying5 | exact Try.underlying41 | exact Try.underlying22 | exact Try.underlying57) (by rfl) (by decide) ?_
    | refine Plan.loadC (key := 1000) (q := 1) rfl rfl rfl rfl rfl rfl (obj_reads1 rfl) (by first | exact Try.underlying3 | exact Try.underlying9 | exact Try.underlying40 | exact Try.underlying4 | exact Try.underlying5 | exact Try.underlying41 | exact Try.underlying22 | exact Try.underlying57) (by rfl) (by decide) ?_
    | refine Plan.loadC (key := 1000) (q := 2) rfl rfl rfl rfl rfl rfl (obj_reads1 rfl) (by first | exact Try.underlying3 | exact Try.underlying9 | exact Try.underlying40 | exact Try.underlying4 | exact Try.underlying5 | exact Try.underlying41 | exact Try.underlying22 | exact Try.underlying57) (by rfl) (by decide) ?_
    | refine Plan.eqlPtr rfl rfl rfl rfl (by kernel_rfl) ?_
    | refine Plan.neqPtr rfl rfl rfl rfl (by kernel_rfl) ?_
    | refine J.seq (J.region mixed hI (by kernel_rfl) ?_)
    | refine J.region mixed hI (by kernel_rfl) ?_
    | refine J.seq (J.seq (J.region mixed hI (by kernel_rfl) ?_))
    | refine J.condF rfl ?_
    | refine J.condT rfl ?_
    | refine J.skip ?_)
  refine J.seq (J.condD rfl (fun hlt => ?_) (fun hlt => ?_))
  · have hlt' : i < es.length := by omega
    have hget : es.getD i ev0 = es[i] := by simp [List.getD_eq_getElem?_getD, List.getElem?_eq_getElem hlt']
    repeat (first
    | refine Plan.move rfl rfl rfl rfl ?_
    | refine Plan.assign rfl rfl rfl rfl ?_
    | refine Plan.skip rfl rfl ?_
    | refine Plan.extract rfl rfl rfl rfl rfl ?_
    | refine Plan.pick rfl rfl rfl rfl rfl ?_
    | refine Plan.lenStr rfl rfl rfl rfl Try.underlying9 ?_
    | refine Plan.lenE rfl rfl rfl rfl Try.underlying40 ?_
    | (refine Plan.ints rfl rfl rfl rfl rfl rfl ?_; (first | refine Plan.int (i64u8 _) ?_ | refine Plan.int (i64r (by omega)) ?_ | refine Plan.int (u64r (by omega)) ?_ | refine Plan.int (u8r (by omega)) ?_ | refine Plan.int (u16r (by omega)) ?_ | refine Plan.int (quoN (by omega)) ?_ | refine Plan.int (remN _ _) ?_ | refine Plan.int (u8N _) ?_ | skip))
    | refine Plan.un rfl rfl rfl rfl rfl ?_
    | refine Plan.lenB rfl rfl rfl rfl (by first | exact Sub.refl _ | exact Sub.own | exact Sub.old (fun _ h => h) | exact Sub.oldOwn (fun _ h => h) | exact Sub.nilRow | exact Sub.ownLower hB | exact Sub.nilOwn (fun _ h => Nat.le_trans hB h.size)) Try.underlying40 ?_
    | (refine Plan.convInt rfl rfl rfl rfl (by first | exact Try.underlying2 | exact Try.underlying3 | exact Try.underlying5 | exact Try.underlying21 | exact Try.underlying37 | exact Try.underlying41 | exact Try.underlying59 | exact Try.underlying102) (by first | exact Try.underlying2 | exact Try.underlying3 | exact Try.underlying5 | exact Try.underlying21 | exact Try.underlying37 | exact Try.underlying41 | exact Try.underlying59 | exact Try.underlying102) ?_; (first | refine Plan.int (i64u8 _) ?_ | refine Plan.int (i64r (by omega)) ?_ | refine Plan.int (u64r (by omega)) ?_ | refine Plan.int (u8r (by omega)) ?_ | refine Plan.int (u16r (by omega)) ?_ | refine Plan.int (quoN (by omega)) ?_ | refine Plan.int (remN _ _) ?_ | refine Plan.int (u8N _) ?_ | skip))
    | refine Plan.nilOk rfl rfl rfl rfl ?_
    | refine Plan.fieldC rfl rfl rfl rfl (by first | exact Try.underlying25 | exact Try.underlying29 | exact Try.underlying31 | exact Try.underlying61 | exact Try.underlying75) rfl (by kernel_rfl) (by first | exact (rfl : _ = 0) | exact (rfl : _ = 1) | exact (rfl : _ = 2) | exact (rfl : _ = 3) | exact (rfl : _ = 4) | exact (rfl : _ = 5) | exact (rfl : _ = 6) | exact (rfl : _ = 7) | exact (rfl : _ = 8) | exact (rfl : _ = 9) | exact (rfl : _ = 10) | exact (rfl : _ = 11) | exact (rfl : _ = 12) | exact (rfl : _ = 13) | exact (rfl : _ = 14) | exact (rfl : _ = 15) | exact (rfl : _ = 16) | exact (rfl : _ = 17) | exact (rfl : _ = 18) | exact (rfl : _ = 19) | exact (rfl : _ = 20) | exact (rfl : _ = 21) | exact (rfl : _ = 22) | exact (rfl : _ = 23) | exact (rfl : _ = 24) | exact (rfl : _ = 25)) ?_
    | refine Plan.loadC (key := 1000) (q := 0) rfl rfl rfl rfl rfl rfl (obj_reads1 rfl) (by first | exact Try.underlying3 | exact Try.underlying9 | exact Try.underlying40 | exact Try.underlying4 | exact Try.underlying5 | exact Try.underlying41 | exact Try.underlying22 | exact Try.underlying57) (by rfl) (by decide) ?_
    | refine Plan.loadC (key := 1000) (q := 1) rfl rfl rfl rfl rfl rfl (obj_reads1 rfl) (by first | exact Try.underlying3 | exact Try.underlying9 | exact Try.underlying40 | exact Try.underlying4 | exact Try.underlying5 | exact Try.underlying41 | exact Try.underlying22 | exact Try.underlying57) (by rfl) (by decide) ?_
    | refine Plan.loadC (key := 1000) (q := 2) rfl rfl rfl rfl rfl rfl (obj_reads1 rfl) (by first | exact Try.underlying3 | exact Try.underlying9 | exact Try.underlying40 | exact Try.underlying4 | exact Try.underlying5 | exact Try.underlying41 | exact Try.underlying22 | exact Try.underlying57) (by rfl) (by decide) ?_
    | refine Plan.eqlPtr rfl rfl rfl rfl (by kernel_rfl) ?_
    | refine Plan.neqPtr rfl rfl rfl rfl (by kernel_rfl) ?_
    | refine J.seq (J.region mixed hI (by kernel_rfl) ?_)
    | refine J.region mixed hI (by kernel_rfl) ?_
    | refine J.seq (J.seq (J.region mixed hI (by kernel_rfl) ?_))
    | refine J.condF rfl ?_
    | refine J.condT rfl ?_
    | refine J.skip ?_)
    refine J.seq (J.block ?_)
    repeat (first
    | refine Plan.move rfl rfl rfl rfl ?_
    | refine Plan.assign rfl rfl rfl rfl ?_
    | refine Plan.skip rfl rfl ?_
    | refine Plan.extract rfl rfl rfl rfl rfl ?_
    | refine Plan.pick rfl rfl rfl rfl rfl ?_
    | refine Plan.lenStr rfl rfl rfl rfl Try.underlying9 ?_
    | refine Plan.lenE rfl rfl rfl rfl Try.underlying40 ?_
    | (refine Plan.ints rfl rfl rfl rfl rfl rfl ?_; (first | refine Plan.int (i64u8 _) ?_ | refine Plan.int (i64r (by omega)) ?_ | refine Plan.int (u64r (by omega)) ?_ | refine Plan.int (u8r (by omega)) ?_ | refine Plan.int (u16r (by omega)) ?_ | refine Plan.int (quoN (by omega)) ?_ | refine Plan.int (remN _ _) ?_ | refine Plan.int (u8N _) ?_ | skip))
    | refine Plan.un rfl rfl rfl rfl rfl ?_
    | refine Plan.lenB rfl rfl rfl rfl (by first | exact Sub.refl _ | exact Sub.own | exact Sub.old (fun _ h => h) | exact Sub.oldOwn (fun _ h => h) | exact Sub.nilRow | exact Sub.ownLower hB | exact Sub.nilOwn (fun _ h => Nat.le_trans hB h.size)) Try.underlying40 ?_
    | (refine Plan.convInt rfl rfl rfl rfl (by first | exact Try.underlying2 | exact Try.underlying3 | exact Try.underlying5 | exact Try.underlying21 | exact Try.underlying37 | exact Try.underlying41 | exact Try.underlying59 | exact Try.underlying102) (by first | exact Try.underlying2 | exact Try.underlying3 | exact Try.underlying5 | exact Try.underlying21 | exact Try.underlying37 | exact Try.underlying41 | exact Try.underlying59 | exact Try.underlying102) ?_; (first | refine Plan.int (i64u8 _) ?_ | refine Plan.int (i64r (by omega)) ?_ | refine Plan.int (u64r (by omega)) ?_ | refine Plan.int (u8r (by omega)) ?_ | refine Plan.int (u16r (by omega)) ?_ | refine Plan.int (quoN (by omega)) ?_ | refine Plan.int (remN _ _) ?_ | refine Plan.int (u8N _) ?_ | skip))
    | refine Plan.nilOk rfl rfl rfl rfl ?_
    | refine Plan.fieldC rfl rfl rfl rfl (by first | exact Try.underlying25 | exact Try.underlying29 | exact Try.underlying31 | exact Try.underlying61 | exact Try.underlying75) rfl (by kernel_rfl) (by first | exact (rfl : _ = 0) | exact (rfl : _ = 1) | exact (rfl : _ = 2) | exact (rfl : _ = 3) | exact (rfl : _ = 4) | exact (rfl : _ = 5) | exact (rfl : _ = 6) | exact (rfl : _ = 7) | exact (rfl : _ = 8) | exact (rfl : _ = 9) | exact (rfl : _ = 10) | exact (rfl : _ = 11) | exact (rfl : _ = 12) | exact (rfl : _ = 13) | exact (rfl : _ = 14) | exact (rfl : _ = 15) | exact (rfl : _ = 16) | exact (rfl : _ = 17) | exact (rfl : _ = 18) | exact (rfl : _ = 19) | exact (rfl : _ = 20) | exact (rfl : _ = 21) | exact (rfl : _ = 22) | exact (rfl : _ = 23) | exact (rfl : _ = 24) | exact (rfl : _ = 25)) ?_
    | refine Plan.loadC (key := 1000) (q := 0) rfl rfl rfl rfl rfl rfl (obj_reads1 rfl) (by first | exact Try.underlying3 | exact Try.underlying9 | exact Try.underlying40 | exact Try.underlying4 | exact Try.underlying5 | exact Try.underlying41 | exact Try.underlying22 | exact Try.underlying57) (by rfl) (by decide) ?_
    | refine Plan.loadC (key := 1000) (q := 1) rfl rfl rfl rfl rfl rfl (obj_reads1 rfl) (by first | exact Try.underlying3 | exact Try.underlying9 | exact Try.underlying40 | exact Try.underlying4 | exact Try.underlying5 | exact Try.underlying41 | exact Try.underlying22 | exact Try.underlying57) (by rfl) (by decide) ?_
    | refine Plan.loadC (key := 1000) (q := 2) rfl rfl rfl rfl rfl rfl (obj_reads1 rfl) (by first | exact Try.underlying3 | exact Try.underlying9 | exact Try.underlying40 | exact Try.underlying4 | exact Try.underlying5 | exact Try.underlying41 | exact Try.underlying22 | exact Try.underlying57) (by rfl) (by decide) ?_
    | refine Plan.eqlPtr rfl rfl rfl rfl (by kernel_rfl) ?_
    | refine Plan.neqPtr rfl rfl rfl rfl (by kernel_rfl) ?_
    | refine J.seq (J.region mixed hI (by kernel_rfl) ?_)
    | refine J.region mixed hI (by kernel_rfl) ?_
    | refine J.seq (J.seq (J.region mixed hI (by kernel_rfl) ?_))
    | refine J.condF rfl ?_
    | refine J.condT rfl ?_
    | refine J.skip ?_)
    refine Plan.lenRow (m := es.length) rfl rfl rfl rfl (Sub.old fun _ h => h) Try.underlying22 (by rw [flatMap_length _ 26 encE]) (by decide) ?_
    repeat (first
    | refine Plan.move rfl rfl rfl rfl ?_
    | refine Plan.assign rfl rfl rfl rfl ?_
    | refine Plan.skip rfl rfl ?_
    | refine Plan.extract rfl rfl rfl rfl rfl ?_
    | refine Plan.pick rfl rfl rfl rfl rfl ?_
    | refine Plan.lenStr rfl rfl rfl rfl Try.underlying9 ?_
    | refine Plan.lenE rfl rfl rfl rfl Try.underlying40 ?_
    | (refine Plan.ints rfl rfl rfl rfl rfl rfl ?_; (first | refine Plan.int (i64u8 _) ?_ | refine Plan.int (i64r (by omega)) ?_ | refine Plan.int (u64r (by omega)) ?_ | refine Plan.int (u8r (by omega)) ?_ | refine Plan.int (u16r (by omega)) ?_ | refine Plan.int (quoN (by omega)) ?_ | refine Plan.int (remN _ _) ?_ | refine Plan.int (u8N _) ?_ | skip))
    | refine Plan.un rfl rfl rfl rfl rfl ?_
    | refine Plan.lenB rfl rfl rfl rfl (by first | exact Sub.refl _ | exact Sub.own | exact Sub.old (fun _ h => h) | exact Sub.oldOwn (fun _ h => h) | exact Sub.nilRow | exact Sub.ownLower hB | exact Sub.nilOwn (fun _ h => Nat.le_trans hB h.size)) Try.underlying40 ?_
    | (refine Plan.convInt rfl rfl rfl rfl (by first | exact Try.underlying2 | exact Try.underlying3 | exact Try.underlying5 | exact Try.underlying21 | exact Try.underlying37 | exact Try.underlying41 | exact Try.underlying59 | exact Try.underlying102) (by first | exact Try.underlying2 | exact Try.underlying3 | exact Try.underlying5 | exact Try.underlying21 | exact Try.underlying37 | exact Try.underlying41 | exact Try.underlying59 | exact Try.underlying102) ?_; (first | refine Plan.int (i64u8 _) ?_ | refine Plan.int (i64r (by omega)) ?_ | refine Plan.int (u64r (by omega)) ?_ | refine Plan.int (u8r (by omega)) ?_ | refine Plan.int (u16r (by omega)) ?_ | refine Plan.int (quoN (by omega)) ?_ | refine Plan.int (remN _ _) ?_ | refine Plan.int (u8N _) ?_ | skip))
    | refine Plan.nilOk rfl rfl rfl rfl ?_
    | refine Plan.fieldC rfl rfl rfl rfl (by first | exact Try.underlying25 | exact Try.underlying29 | exact Try.underlying31 | exact Try.underlying61 | exact Try.underlying75) rfl (by kernel_rfl) (by first | exact (rfl : _ = 0) | exact (rfl : _ = 1) | exact (rfl : _ = 2) | exact (rfl : _ = 3) | exact (rfl : _ = 4) | exact (rfl : _ = 5) | exact (rfl : _ = 6) | exact (rfl : _ = 7) | exact (rfl : _ = 8) | exact (rfl : _ = 9) | exact (rfl : _ = 10) | exact (rfl : _ = 11) | exact (rfl : _ = 12) | exact (rfl : _ = 13) | exact (rfl : _ = 14) | exact (rfl : _ = 15) | exact (rfl : _ = 16) | exact (rfl : _ = 17) | exact (rfl : _ = 18) | exact (rfl : _ = 19) | exact (rfl : _ = 20) | exact (rfl : _ = 21) | exact (rfl : _ = 22) | exact (rfl : _ = 23) | exact (rfl : _ = 24) | exact (rfl : _ = 25)) ?_
    | refine Plan.loadC (key := 1000) (q := 0) rfl rfl rfl rfl rfl rfl (obj_reads1 rfl) (by first | exact Try.underlying3 | exact Try.underlying9 | exact Try.underlying40 | exact Try.underlying4 | exact Try.underlying5 | exact Try.underlying41 | exact Try.underlying22 | exact Try.underlying57) (by rfl) (by decide) ?_
    | refine Plan.loadC (key := 1000) (q := 1) rfl rfl rfl rfl rfl rfl (obj_reads1 rfl) (by first | exact Try.underlying3 | exact Try.underlying9 | exact Try.underlying40 | exact Try.underlying4 | exact Try.underlying5 | exact Try.underlying41 | exact Try.underlying22 | exact Try.underlying57) (by rfl) (by decide) ?_
    | refine Plan.loadC (key := 1000) (q := 2) rfl rfl rfl rfl rfl rfl (obj_reads1 rfl) (by first | exact Try.underlying3 | exact Try.underlying9 | exact Try.underlying40 | exact Try.underlying4 | exact Try.underlying5 | exact Try.underlying41 | exact Try.underlying22 | exact Try.underlying57) (by rfl) (by decide) ?_
    | refine Plan.eqlPtr rfl rfl rfl rfl (by kernel_rfl) ?_
    | refine Plan.neqPtr rfl rfl rfl rfl (by kernel_rfl) ?_
    | refine J.seq (J.region mixed hI (by kernel_rfl) ?_)
    | refine J.region mixed hI (by kernel_rfl) ?_
    | refine J.seq (J.seq (J.region mixed hI (by kernel_rfl) ?_))
    | refine J.condF rfl ?_
    | refine J.condT rfl ?_
    | refine J.skip ?_)
    refine J.block (J.loop (rkE w0 es a i) (fun s => s.1 ≤ es.length ∧ s.2 = (es.take s.1).all (fun x => !later x es[i])) (fun s => es.length - s.1) (0, true) ⟨Nat.zero_le _, rfl⟩ ?_ ?_)
    · repeat (first | exact Weak.nil | refine Weak.cons rfl (Sub.refl _) ?_)
    rintro ⟨k, top⟩ ⟨hk, htop⟩
    dsimp only at hk htop
    repeat (first
    | refine Plan.move rfl rfl rfl rfl ?_
    | refine Plan.assign rfl rfl rfl rfl ?_
    | refine Plan.skip rfl rfl ?_
    | refine Plan.extract rfl rfl rfl rfl rfl ?_
    | refine Plan.pick rfl rfl rfl rfl rfl ?_
    | refine Plan.lenStr rfl rfl rfl rfl Try.underlying9 ?_
    | refine Plan.lenE rfl rfl rfl rfl Try.underlying40 ?_
    | (refine Plan.ints rfl rfl rfl rfl rfl rfl ?_; (first | refine Plan.int (i64u8 _) ?_ | refine Plan.int (i64r (by omega)) ?_ | refine Plan.int (u64r (by omega)) ?_ | refine Plan.int (u8r (by omega)) ?_ | refine Plan.int (u16r (by omega)) ?_ | refine Plan.int (quoN (by omega)) ?_ | refine Plan.int (remN _ _) ?_ | refine Plan.int (u8N _) ?_ | skip))
    | refine Plan.un rfl rfl rfl rfl rfl ?_
    | refine Plan.lenB rfl rfl rfl rfl (by first | exact Sub.refl _ | exact Sub.own | exact Sub.old (fun _ h => h) | exact Sub.oldOwn (fun _ h => h) | exact Sub.nilRow | exact Sub.ownLower hB | exact Sub.nilOwn (fun _ h => Nat.le_trans hB h.size)) Try.underlying40 ?_
    | (refine Plan.convInt rfl rfl rfl rfl (by first | exact Try.underlying2 | exact Try.underlying3 | exact Try.underlying5 | exact Try.underlying21 | exact Try.underlying37 | exact Try.underlying41 | exact Try.underlying59 | exact Try.underlying102) (by first | exact Try.underlying2 | exact Try.underlying3 | exact Try.underlying5 | exact Try.underlying21 | exact Try.underlying37 | exact Try.underlying41 | exact Try.underlying59 | exact Try.underlying102) ?_; (first | refine Plan.int (i64u8 _) ?_ | refine Plan.int (i64r (by omega)) ?_ | refine Plan.int (u64r (by omega)) ?_ | refine Plan.int (u8r (by omega)) ?_ | refine Plan.int (u16r (by omega)) ?_ | refine Plan.int (quoN (by omega)) ?_ | refine Plan.int (remN _ _) ?_ | refine Plan.int (u8N _) ?_ | skip))
    | refine Plan.nilOk rfl rfl rfl rfl ?_
    | refine Plan.fieldC rfl rfl rfl rfl (by first | exact Try.underlying25 | exact Try.underlying29 | exact Try.underlying31 | exact Try.underlying61 | exact Try.underlying75) rfl (by kernel_rfl) (by first | exact (rfl : _ = 0) | exact (rfl : _ = 1) | exact (rfl : _ = 2) | exact (rfl : _ = 3) | exact (rfl : _ = 4) | exact (rfl : _ = 5) | exact (rfl : _ = 6) | exact (rfl : _ = 7) | exact (rfl : _ = 8) | exact (rfl : _ = 9) | exact (rfl : _ = 10) | exact (rfl : _ = 11) | exact (rfl : _ = 12) | exact (rfl : _ = 13) | exact (rfl : _ = 14) | exact (rfl : _ = 15) | exact (rfl : _ = 16) | exact (rfl : _ = 17) | exact (rfl : _ = 18) | exact (rfl : _ = 19) | exact (rfl : _ = 20) | exact (rfl : _ = 21) | exact (rfl : _ = 22) | exact (rfl : _ = 23) | exact (rfl : _ = 24) | exact (rfl : _ = 25)) ?_
    | refine Plan.loadC (key := 1000) (q := 0) rfl rfl rfl rfl rfl rfl (obj_reads1 rfl) (by first | exact Try.underlying3 | exact Try.underlying9 | exact Try.underlying40 | exact Try.underlying4 | exact Try.underlying5 | exact Try.underlying41 | exact Try.underlying22 | exact Try.underlying57) (by rfl) (by decide) ?_
    | refine Plan.loadC (key := 1000) (q := 1) rfl rfl rfl rfl rfl rfl (obj_reads1 rfl) (by first | exact Try.underlying3 | exact Try.underlying9 | exact Try.underlying40 | exact Try.underlying4 | exact Try.underlying5 | exact Try.underlying41 | exact Try.underlying22 | exact Try.underlying57) (by rfl) (by decide) ?_
    | refine Plan.loadC (key := 1000) (q := 2) rfl rfl rfl rfl rfl rfl (obj_reads1 rfl) (by first | exact Try.underlying3 | exact Try.underlying9 | exact Try.underlying40 | exact Try.underlying4 | exact Try.underlying5 | exact Try.underlying41 | exact Try.underlying22 | exact Try.underlying57) (by rfl) (by decide) ?_
    | refine Plan.eqlPtr rfl rfl rfl rfl (by kernel_rfl) ?_
    | refine Plan.neqPtr rfl rfl rfl rfl (by kernel_rfl) ?_
    | refine J.seq (J.region mixed hI (by kernel_rfl) ?_)
    | refine J.region mixed hI (by kernel_rfl) ?_
    | refine J.seq (J.seq (J.region mixed hI (by kernel_rfl) ?_))
    | refine J.condF rfl ?_
    | refine J.condT rfl ?_
    | refine J.skip ?_)
    refine J.seq (J.condD rfl (fun hlt2 => ?_) (fun hlt2 => ?_))
    · have hlt2' : k < es.length := by
        dsimp only at hlt2; omega
      have hgetk : es.getD k ev0 = es[k] := by simp [List.getD_eq_getElem?_getD, List.getElem?_eq_getElem hlt2']
      have hall : (es.take (k + 1)).all (fun x => !later x es[i]) = (top && !later es[k] es[i]) := by
        rw [List.take_succ_eq_append_getElem hlt2', List.all_append, ← htop]; simp
      repeat (first
    | refine Plan.move rfl rfl rfl rfl ?_
    | refine Plan.assign rfl rfl rfl rfl ?_
    | refine Plan.skip rfl rfl ?_
    | refine Plan.extract rfl rfl rfl rfl rfl ?_
    | refine Plan.pick rfl rfl rfl rfl rfl ?_
    | refine Plan.lenStr rfl rfl rfl rfl Try.underlying9 ?_
    | refine Plan.lenE rfl rfl rfl rfl Try.underlying40 ?_
    | (refine Plan.ints rfl rfl rfl rfl rfl rfl ?_; (first | refine Plan.int (i64u8 _) ?_ | refine Plan.int (i64r (by omega)) ?_ | refine Plan.int (u64r (by omega)) ?_ | refine Plan.int (u8r (by omega)) ?_ | refine Plan.int (u16r (by omega)) ?_ | refine Plan.int (quoN (by omega)) ?_ | refine Plan.int (remN _ _) ?_ | refine Plan.int (u8N _) ?_ | skip))
    | refine Plan.un rfl rfl rfl rfl rfl ?_
    | refine Plan.lenB rfl rfl rfl rfl (by first | exact Sub.refl _ | exact Sub.own | exact Sub.old (fun _ h => h) | exact Sub.oldOwn (fun _ h => h) | exact Sub.nilRow | exact Sub.ownLower hB | exact Sub.nilOwn (fun _ h => Nat.le_trans hB h.size)) Try.underlying40 ?_
    | (refine Plan.convInt rfl rfl rfl rfl (by first | exact Try.underlying2 | exact Try.underlying3 | exact Try.underlying5 | exact Try.underlying21 | exact Try.underlying37 | exact Try.underlying41 | exact Try.underlying59 | exact Try.underlying102) (by first | exact Try.underlying2 | exact Try.underlying3 | exact Try.underlying5 | exact Try.underlying21 | exact Try.underlying37 | exact Try.underlying41 | exact Try.underlying59 | exact Try.underlying102) ?_; (first | refine Plan.int (i64u8 _) ?_ | refine Plan.int (i64r (by omega)) ?_ | refine Plan.int (u64r (by omega)) ?_ | refine Plan.int (u8r (by omega)) ?_ | refine Plan.int (u16r (by omega)) ?_ | refine Plan.int (quoN (by omega)) ?_ | refine Plan.int (remN _ _) ?_ | refine Plan.int (u8N _) ?_ | skip))
    | refine Plan.nilOk rfl rfl rfl rfl ?_
    | refine Plan.fieldC rfl rfl rfl rfl (by first | exact Try.underlying25 | exact Try.underlying29 | exact Try.underlying31 | exact Try.underlying61 | exact Try.underlying75) rfl (by kernel_rfl) (by first | exact (rfl : _ = 0) | exact (rfl : _ = 1) | exact (rfl : _ = 2) | exact (rfl : _ = 3) | exact (rfl : _ = 4) | exact (rfl : _ = 5) | exact (rfl : _ = 6) | exact (rfl : _ = 7) | exact (rfl : _ = 8) | exact (rfl : _ = 9) | exact (rfl : _ = 10) | exact (rfl : _ = 11) | exact (rfl : _ = 12) | exact (rfl : _ = 13) | exact (rfl : _ = 14) | exact (rfl : _ = 15) | exact (rfl : _ = 16) | exact (rfl : _ = 17) | exact (rfl : _ = 18) | exact (rfl : _ = 19) | exact (rfl : _ = 20) | exact (rfl : _ = 21) | exact (rfl : _ = 22) | exact (rfl : _ = 23) | exact (rfl : _ = 24) | exact (rfl : _ = 25)) ?_
    | refine Plan.loadC (key := 1000) (q := 0) rfl rfl rfl rfl rfl rfl (obj_reads1 rfl) (by first | exact Try.underlying3 | exact Try.underlying9 | exact Try.underlying40 | exact Try.underlying4 | exact Try.underlying5 | exact Try.underlying41 | exact Try.underlying22 | exact Try.underlying57) (by rfl) (by decide) ?_
    | refine Plan.loadC (key := 1000) (q := 1) rfl rfl rfl rfl rfl rfl (obj_reads1 rfl) (by first | exact Try.underlying3 | exact Try.underlying9 | exact Try.underlying40 | exact Try.underlying4 | exact Try.underlying5 | exact Try.underlying41 | exact Try.underlying22 | exact Try.underlying57) (by rfl) (by decide) ?_
    | refine Plan.loadC (key := 1000) (q := 2) rfl rfl rfl rfl rfl rfl (obj_reads1 rfl) (by first | exact Try.underlying3 | exact Try.underlying9 | exact Try.underlying40 | exact Try.underlying4 | exact Try.underlying5 | exact Try.underlying41 | exact Try.underlying22 | exact Try.underlying57) (by rfl) (by decide) ?_
    | refine Plan.eqlPtr rfl rfl rfl rfl (by kernel_rfl) ?_
    | refine Plan.neqPtr rfl rfl rfl rfl (by kernel_rfl) ?_
    | refine J.seq (J.region mixed hI (by kernel_rfl) ?_)
    | refine J.region mixed hI (by kernel_rfl) ?_
    | refine J.seq (J.seq (J.region mixed hI (by kernel_rfl) ?_))
    | refine J.condF rfl ?_
    | refine J.condT rfl ?_
    | refine J.skip ?_)
      refine J.seq (J.block ?_)
      cases top with
      | false =>
        repeat (first
    | refine Plan.move rfl rfl rfl rfl ?_
    | refine Plan.assign rfl rfl rfl rfl ?_
    | refine Plan.skip rfl rfl ?_
    | refine Plan.extract rfl rfl rfl rfl rfl ?_
    | refine Plan.pick rfl rfl rfl rfl rfl ?_
    | refine Plan.lenStr rfl rfl rfl rfl Try.underlying9 ?_
    | refine Plan.lenE rfl rfl rfl rfl Try.underlying40 ?_
    | (refine Plan.ints rfl rfl rfl rfl rfl rfl ?_; (first | refine Plan.int (i64u8 _) ?_ | refine Plan.int (i64r (by omega)) ?_ | refine Plan.int (u64r (by omega)) ?_ | refine Plan.int (u8r (by omega)) ?_ | refine Plan.int (u16r (by omega)) ?_ | refine Plan.int (quoN (by omega)) ?_ | refine Plan.int (remN _ _) ?_ | refine Plan.int (u8N _) ?_ | skip))
    | refine Plan.un rfl rfl rfl rfl rfl ?_
    | refine Plan.lenB rfl rfl rfl rfl (by first | exact Sub.refl _ | exact Sub.own | exact Sub.old (fun _ h => h) | exact Sub.oldOwn (fun _ h => h) | exact Sub.nilRow | exact Sub.ownLower hB | exact Sub.nilOwn (fun _ h => Nat.le_trans hB h.size)) Try.underlying40 ?_
    | (refine Plan.convInt rfl rfl rfl rfl (by first | exact Try.underlying2 | exact Try.underlying3 | exact Try.underlying5 | exact Try.underlying21 | exact Try.underlying37 | exact Try.underlying41 | exact Try.underlying59 | exact Try.underlying102) (by first | exact Try.underlying2 | exact Try.underlying3 | exact Try.underlying5 | exact Try.underlying21 | exact Try.underlying37 | exact Try.underlying41 | exact Try.underlying59 | exact Try.underlying102) ?_; (first | refine Plan.int (i64u8 _) ?_ | refine Plan.int (i64r (by omega)) ?_ | refine Plan.int (u64r (by omega)) ?_ | refine Plan.int (u8r (by omega)) ?_ | refine Plan.int (u16r (by omega)) ?_ | refine Plan.int (quoN (by omega)) ?_ | refine Plan.int (remN _ _) ?_ | refine Plan.int (u8N _) ?_ | skip))
    | refine Plan.nilOk rfl rfl rfl rfl ?_
    | refine Plan.fieldC rfl rfl rfl rfl (by first | exact Try.underlying25 | exact Try.underlying29 | exact Try.underlying31 | exact Try.underlying61 | exact Try.underlying75) rfl (by kernel_rfl) (by first | exact (rfl : _ = 0) | exact (rfl : _ = 1) | exact (rfl : _ = 2) | exact (rfl : _ = 3) | exact (rfl : _ = 4) | exact (rfl : _ = 5) | exact (rfl : _ = 6) | exact (rfl : _ = 7) | exact (rfl : _ = 8) | exact (rfl : _ = 9) | exact (rfl : _ = 10) | exact (rfl : _ = 11) | exact (rfl : _ = 12) | exact (rfl : _ = 13) | exact (rfl : _ = 14) | exact (rfl : _ = 15) | exact (rfl : _ = 16) | exact (rfl : _ = 17) | exact (rfl : _ = 18) | exact (rfl : _ = 19) | exact (rfl : _ = 20) | exact (rfl : _ = 21) | exact (rfl : _ = 22) | exact (rfl : _ = 23) | exact (rfl : _ = 24) | exact (rfl : _ = 25)) ?_
    | refine Plan.loadC (key := 1000) (q := 0) rfl rfl rfl rfl rfl rfl (obj_reads1 rfl) (by first | exact Try.underlying3 | exact Try.underlying9 | exact Try.underlying40 | exact Try.underlying4 | exact Try.underlying5 | exact Try.underlying41 | exact Try.underlying22 | exact Try.underlying57) (by rfl) (by decide) ?_
    | refine Plan.loadC (key := 1000) (q := 1) rfl rfl rfl rfl rfl rfl (obj_reads1 rfl) (by first | exact Try.underlying3 | exact Try.underlying9 | exact Try.underlying40 | exact Try.underlying4 | exact Try.underlying5 | exact Try.underlying41 | exact Try.underlying22 | exact Try.underlying57) (by rfl) (by decide) ?_
    | refine Plan.loadC (key := 1000) (q := 2) rfl rfl rfl rfl rfl rfl (obj_reads1 rfl) (by first | exact Try.underlying3 | exact Try.underlying9 | exact Try.underlying40 | exact Try.underlying4 | exact Try.underlying5 | exact Try.underlying41 | exact Try.underlying22 | exact Try.underlying57) (by rfl) (by decide) ?_
    | refine Plan.eqlPtr rfl rfl rfl rfl (by kernel_rfl) ?_
    | refine Plan.neqPtr rfl rfl rfl rfl (by kernel_rfl) ?_
    | refine J.seq (J.region mixed hI (by kernel_rfl) ?_)
    | refine J.region mixed hI (by kernel_rfl) ?_
    | refine J.seq (J.seq (J.region mixed hI (by kernel_rfl) ?_))
    | refine J.condF rfl ?_
    | refine J.condT rfl ?_
    | refine J.skip ?_)
        refine Plan.int (y := ((k + 1 : Nat) : Int)) (by first | omega | (dsimp only; omega)) ?_
        exact Nrm.next (k + 1, false) ⟨hlt2', by rw [hall]; rfl⟩ (by dsimp only; omega) (by repeat (first | exact Weak.nil | refine Weak.cons rfl (Sub.refl _) ?_))
      | true =>
        repeat (first
    | refine Plan.move rfl rfl rfl rfl ?_
    | refine Plan.assign rfl rfl rfl rfl ?_
    | refine Plan.skip rfl rfl ?_
    | refine Plan.extract rfl rfl rfl rfl rfl ?_
    | refine Plan.pick rfl rfl rfl rfl rfl ?_
    | refine Plan.lenStr rfl rfl rfl rfl Try.underlying9 ?_
    | refine Plan.lenE rfl rfl rfl rfl Try.underlying40 ?_
    | (refine Plan.ints rfl rfl rfl rfl rfl rfl ?_; (first | refine Plan.int (i64u8 _) ?_ | refine Plan.int (i64r (by omega)) ?_ | refine Plan.int (u64r (by omega)) ?_ | refine Plan.int (u8r (by omega)) ?_ | refine Plan.int (u16r (by omega)) ?_ | refine Plan.int (quoN (by omega)) ?_ | refine Plan.int (remN _ _) ?_ | refine Plan.int (u8N _) ?_ | skip))
    | refine Plan.un rfl rfl rfl rfl rfl ?_
    | refine Plan.lenB rfl rfl rfl rfl (by first | exact Sub.refl _ | exact Sub.own | exact Sub.old (fun _ h => h) | exact Sub.oldOwn (fun _ h => h) | exact Sub.nilRow | exact Sub.ownLower hB | exact Sub.nilOwn (fun _ h => Nat.le_trans hB h.size)) Try.underlying40 ?_
    | (refine Plan.convInt rfl rfl rfl rfl (by first | exact Try.underlying2 | exact Try.underlying3 | exact Try.underlying5 | exact Try.underlying21 | exact Try.underlying37 | exact Try.underlying41 | exact Try.underlying59 | exact Try.underlying102) (by first | exact Try.underlying2 | exact Try.underlying3 | exact Try.underlying5 | exact Try.underlying21 | exact Try.underlying37 | exact Try.underlying41 | exact Try.underlying59 | exact Try.underlying102) ?_; (first | refine Plan.int (i64u8 _) ?_ | refine Plan.int (i64r (by omega)) ?_ | refine Plan.int (u64r (by omega)) ?_ | refine Plan.int (u8r (by omega)) ?_ | refine Plan.int (u16r (by omega)) ?_ | refine Plan.int (quoN (by omega)) ?_ | refine Plan.int (remN _ _) ?_ | refine Plan.int (u8N _) ?_ | skip))
    | refine Plan.nilOk rfl rfl rfl rfl ?_
    | refine Plan.fieldC rfl rfl rfl rfl (by first | exact Try.underlying25 | exact Try.underlying29 | exact Try.underlying31 | exact Try.underlying61 | exact Try.underlying75) rfl (by kernel_rfl) (by first | exact (rfl : _ = 0) | exact (rfl : _ = 1) | exact (rfl : _ = 2) | exact (rfl : _ = 3) | exact (rfl : _ = 4) | exact (rfl : _ = 5) | exact (rfl : _ = 6) | exact (rfl : _ = 7) | exact (rfl : _ = 8) | exact (rfl : _ = 9) | exact (rfl : _ = 10) | exact (rfl : _ = 11) | exact (rfl : _ = 12) | exact (rfl : _ = 13) | exact (rfl : _ = 14) | exact (rfl : _ = 15) | exact (rfl : _ = 16) | exact (rfl : _ = 17) | exact (rfl : _ = 18) | exact (rfl : _ = 19) | exact (rfl : _ = 20) | exact (rfl : _ = 21) | exact (rfl : _ = 22) | exact (rfl : _ = 23) | exact (rfl : _ = 24) | exact (rfl : _ = 25)) ?_
    | refine Plan.loadC (key := 1000) (q := 0) rfl rfl rfl rfl rfl rfl (obj_reads1 rfl) (by first | exact Try.underlying3 | exact Try.underlying9 | exact Try.underlying40 | exact Try.underlying4 | exact Try.underlying5 | exact Try.underlying41 | exact Try.underlying22 | exact Try.underlying57) (by rfl) (by decide) ?_
    | refine Plan.loadC (key := 1000) (q := 1) rfl rfl rfl rfl rfl rfl (obj_reads1 rfl) (by first | exact Try.underlying3 | exact Try.underlying9 | exact Try.underlying40 | exact Try.underlying4 | exact Try.underlying5 | exact Try.underlying41 | exact Try.underlying22 | exact Try.underlying57) (by rfl) (by decide) ?_
    | refine Plan.loadC (key := 1000) (q := 2) rfl rfl rfl rfl rfl rfl (obj_reads1 rfl) (by first | exact Try.underlying3 | exact Try.underlying9 | exact Try.underlying40 | exact Try.underlying4 | exact Try.underlying5 | exact Try.underlying41 | exact Try.underlying22 | exact Try.underlying57) (by rfl) (by decide) ?_
    | refine Plan.eqlPtr rfl rfl rfl rfl (by kernel_rfl) ?_
    | refine Plan.neqPtr rfl rfl rfl rfl (by kernel_rfl) ?_
    | refine J.seq (J.region mixed hI (by kernel_rfl) ?_)
    | refine J.region mixed hI (by kernel_rfl) ?_
    | refine J.seq (J.seq (J.region mixed hI (by kernel_rfl) ?_))
    | refine J.condF rfl ?_
    | refine J.condT rfl ?_
    | refine J.skip ?_)
        refine Plan.indexAddr EvV.enc 26 es ev0 rfl rfl rfl rfl (Sub.old fun _ h => h) rfl eltE encE (by omega) (by omega) ?_
        rw [Int.toNat_natCast, hgetk]
        refine Plan.loadAggP rfl rfl rfl rfl (Sub.refl _) Try.underlying31 rfl (by rw [encE]; kernel_rfl) ?_
        refine Plan.move rfl rfl rfl rfl ?_
        refine Plan.move rfl rfl rfl rfl ?_
        refine Plan.indexAddr EvV.enc 26 es ev0 rfl rfl rfl rfl (Sub.old fun _ h => h) rfl eltE encE (by omega) (by omega) ?_
        rw [Int.toNat_natCast, hget]
        refine Plan.loadAggP rfl rfl rfl rfl (Sub.refl _) Try.underlying31 rfl (by rw [encE]; kernel_rfl) ?_
        refine Plan.call (B := w0.heap.size) rfl rfl rfl (ref_Later es[k] es[i]) Try.func28 rfl rfl (hBb w0) (by repeat (first | exact Opnds.nil | refine Opnds.cons rfl (by first | exact Sub.refl _ | exact Sub.own | exact Sub.old (fun _ h => h) | exact Sub.oldOwn (fun _ h => h) | exact Sub.nilRow) ?_)) ?_
        repeat (first
    | refine Plan.move rfl rfl rfl rfl ?_
    | refine Plan.assign rfl rfl rfl rfl ?_
    | refine Plan.skip rfl rfl ?_
    | refine Plan.extract rfl rfl rfl rfl rfl ?_
    | refine Plan.pick rfl rfl rfl rfl rfl ?_
    | refine Plan.lenStr rfl rfl rfl rfl Try.underlying9 ?_
    | refine Plan.lenE rfl rfl rfl rfl Try.underlying40 ?_
    | (refine Plan.ints rfl rfl rfl rfl rfl rfl ?_; (first | refine Plan.int (i64u8 _) ?_ | refine Plan.int (i64r (by omega)) ?_ | refine Plan.int (u64r (by omega)) ?_ | refine Plan.int (u8r (by omega)) ?_ | refine Plan.int (u16r (by omega)) ?_ | refine Plan.int (quoN (by omega)) ?_ | refine Plan.int (remN _ _) ?_ | refine Plan.int (u8N _) ?_ | skip))
    | refine Plan.un rfl rfl rfl rfl rfl ?_
    | refine Plan.lenB rfl rfl rfl rfl (by first | exact Sub.refl _ | exact Sub.own | exact Sub.old (fun _ h => h) | exact Sub.oldOwn (fun _ h => h) | exact Sub.nilRow | exact Sub.ownLower hB | exact Sub.nilOwn (fun _ h => Nat.le_trans hB h.size)) Try.underlying40 ?_
    | (refine Plan.convInt rfl rfl rfl rfl (by first | exact Try.underlying2 | exact Try.underlying3 | exact Try.underlying5 | exact Try.underlying21 | exact Try.underlying37 | exact Try.underlying41 | exact Try.underlying59 | exact Try.underlying102) (by first | exact Try.underlying2 | exact Try.underlying3 | exact Try.underlying5 | exact Try.underlying21 | exact Try.underlying37 | exact Try.underlying41 | exact Try.underlying59 | exact Try.underlying102) ?_; (first | refine Plan.int (i64u8 _) ?_ | refine Plan.int (i64r (by omega)) ?_ | refine Plan.int (u64r (by omega)) ?_ | refine Plan.int (u8r (by omega)) ?_ | refine Plan.int (u16r (by omega)) ?_ | refine Plan.int (quoN (by omega)) ?_ | refine Plan.int (remN _ _) ?_ | refine Plan.int (u8N _) ?_ | skip))
    | refine Plan.nilOk rfl rfl rfl rfl ?_
    | refine Plan.fieldC rfl rfl rfl rfl (by first | exact Try.underlying25 | exact Try.underlying29 | exact Try.underlying31 | exact Try.underlying61 | exact Try.underlying75) rfl (by kernel_rfl) (by first | exact (rfl : _ = 0) | exact (rfl : _ = 1) | exact (rfl : _ = 2) | exact (rfl : _ = 3) | exact (rfl : _ = 4) | exact (rfl : _ = 5) | exact (rfl : _ = 6) | exact (rfl : _ = 7) | exact (rfl : _ = 8) | exact (rfl : _ = 9) | exact (rfl : _ = 10) | exact (rfl : _ = 11) | exact (rfl : _ = 12) | exact (rfl : _ = 13) | exact (rfl : _ = 14) | exact (rfl : _ = 15) | exact (rfl : _ = 16) | exact (rfl : _ = 17) | exact (rfl : _ = 18) | exact (rfl : _ = 19) | exact (rfl : _ = 20) | exact (rfl : _ = 21) | exact (rfl : _ = 22) | exact (rfl : _ = 23) | exact (rfl : _ = 24) | exact (rfl : _ = 25)) ?_
    | refine Plan.loadC (key := 1000) (q := 0) rfl rfl rfl rfl rfl rfl (obj_reads1 rfl) (by first | exact Try.underlying3 | exact Try.underlying9 | exact Try.underlying40 | exact Try.underlying4 | exact Try.underlying5 | exact Try.underlying41 | exact Try.underlying22 | exact Try.underlying57) (by rfl) (by decide) ?_
    | refine Plan.loadC (key := 1000) (q := 1) rfl rfl rfl rfl rfl rfl (obj_reads1 rfl) (by first | exact Try.underlying3 | exact Try.underlying9 | exact Try.underlying40 | exact Try.underlying4 | exact Try.underlying5 | exact Try.underlying41 | exact Try.underlying22 | exact Try.underlying57) (by rfl) (by decide) ?_
    | refine Plan.loadC (key := 1000) (q := 2) rfl rfl rfl rfl rfl rfl (obj_reads1 rfl) (by first | exact Try.underlying3 | exact Try.underlying9 | exact Try.underlying40 | exact Try.underlying4 | exact Try.underlying5 | exact Try.underlying41 | exact Try.underlying22 | exact Try.underlying57) (by rfl) (by decide) ?_
    | refine Plan.eqlPtr rfl rfl rfl rfl (by kernel_rfl) ?_
    | refine Plan.neqPtr rfl rfl rfl rfl (by kernel_rfl) ?_
    | refine J.seq (J.region mixed hI (by kernel_rfl) ?_)
    | refine J.region mixed hI (by kernel_rfl) ?_
    | refine J.seq (J.seq (J.region mixed hI (by kernel_rfl) ?_))
    | refine J.condF rfl ?_
    | refine J.condT rfl ?_
    | refine J.skip ?_)
        refine Plan.int (y := ((k + 1 : Nat) : Int)) (by first | omega | (dsimp only; omega)) ?_
        exact Nrm.next (k + 1, !later es[k] es[i]) ⟨hlt2', by rw [hall]; rfl⟩ (by dsimp only; omega) (by repeat (first | exact Weak.nil | refine Weak.cons rfl (Sub.refl _) ?_))
    · have hke : k = es.length := by
        dsimp only at hlt2; omega
      rw [hke, List.take_length] at htop
      refine J.exit ?_
      repeat (first
    | refine Plan.move rfl rfl rfl rfl ?_
    | refine Plan.assign rfl rfl rfl rfl ?_
    | refine Plan.skip rfl rfl ?_
    | refine Plan.extract rfl rfl rfl rfl rfl ?_
    | refine Plan.pick rfl rfl rfl rfl rfl ?_
    | refine Plan.lenStr rfl rfl rfl rfl Try.underlying9 ?_
    | refine Plan.lenE rfl rfl rfl rfl Try.underlying40 ?_
    | (refine Plan.ints rfl rfl rfl rfl rfl rfl ?_; (first | refine Plan.int (i64u8 _) ?_ | refine Plan.int (i64r (by omega)) ?_ | refine Plan.int (u64r (by omega)) ?_ | refine Plan.int (u8r (by omega)) ?_ | refine Plan.int (u16r (by omega)) ?_ | refine Plan.int (quoN (by omega)) ?_ | refine Plan.int (remN _ _) ?_ | refine Plan.int (u8N _) ?_ | skip))
    | refine Plan.un rfl rfl rfl rfl rfl ?_
    | refine Plan.lenB rfl rfl rfl rfl (by first | exact Sub.refl _ | exact Sub.own | exact Sub.old (fun _ h => h) | exact Sub.oldOwn (fun _ h => h) | exact Sub.nilRow | exact Sub.ownLower hB | exact Sub.nilOwn (fun _ h => Nat.le_trans hB h.size)) Try.underlying40 ?_
    | (refine Plan.convInt rfl rfl rfl rfl (by first | exact Try.underlying2 | exact Try.underlying3 | exact Try.underlying5 | exact Try.underlying21 | exact Try.underlying37 | exact Try.underlying41 | exact Try.underlying59 | exact Try.underlying102) (by first | exact Try.underlying2 | exact Try.underlying3 | exact Try.underlying5 | exact Try.underlying21 | exact Try.underlying37 | exact Try.underlying41 | exact Try.underlying59 | exact Try.underlying102) ?_; (first | refine Plan.int (i64u8 _) ?_ | refine Plan.int (i64r (by omega)) ?_ | refine Plan.int (u64r (by omega)) ?_ | refine Plan.int (u8r (by omega)) ?_ | refine Plan.int (u16r (by omega)) ?_ | refine Plan.int (quoN (by omega)) ?_ | refine Plan.int (remN _ _) ?_ | refine Plan.int (u8N _) ?_ | skip))
    | refine Plan.nilOk rfl rfl rfl rfl ?_
    | refine Plan.fieldC rfl rfl rfl rfl (by first | exact Try.underlying25 | exact Try.underlying29 | exact Try.underlying31 | exact Try.underlying61 | exact Try.underlying75) rfl (by kernel_rfl) (by first | exact (rfl : _ = 0) | exact (rfl : _ = 1) | exact (rfl : _ = 2) | exact (rfl : _ = 3) | exact (rfl : _ = 4) | exact (rfl : _ = 5) | exact (rfl : _ = 6) | exact (rfl : _ = 7) | exact (rfl : _ = 8) | exact (rfl : _ = 9) | exact (rfl : _ = 10) | exact (rfl : _ = 11) | exact (rfl : _ = 12) | exact (rfl : _ = 13) | exact (rfl : _ = 14) | exact (rfl : _ = 15) | exact (rfl : _ = 16) | exact (rfl : _ = 17) | exact (rfl : _ = 18) | exact (rfl : _ = 19) | exact (rfl : _ = 20) | exact (rfl : _ = 21) | exact (rfl : _ = 22) | exact (rfl : _ = 23) | exact (rfl : _ = 24) | exact (rfl : _ = 25)) ?_
    | refine Plan.loadC (key := 1000) (q := 0) rfl rfl rfl rfl rfl rfl (obj_reads1 rfl) (by first | exact Try.underlying3 | exact Try.underlying9 | exact Try.underlying40 | exact Try.underlying4 | exact Try.underlying5 | exact Try.underlying41 | exact Try.underlying22 | exact Try.underlying57) (by rfl) (by decide) ?_
    | refine Plan.loadC (key := 1000) (q := 1) rfl rfl rfl rfl rfl rfl (obj_reads1 rfl) (by first | exact Try.underlying3 | exact Try.underlying9 | exact Try.underlying40 | exact Try.underlying4 | exact Try.underlying5 | exact Try.underlying41 | exact Try.underlying22 | exact Try.underlying57) (by rfl) (by decide) ?_
    | refine Plan.loadC (key := 1000) (q := 2) rfl rfl rfl rfl rfl rfl (obj_reads1 rfl) (by first | exact Try.underlying3 | exact Try.underlying9 | exact Try.underlying40 | exact Try.underlying4 | exact Try.underlying5 | exact Try.underlying41 | exact Try.underlying22 | exact Try.underlying57) (by rfl) (by decide) ?_
    | refine Plan.eqlPtr rfl rfl rfl rfl (by kernel_rfl) ?_
    | refine Plan.neqPtr rfl rfl rfl rfl (by kernel_rfl) ?_
    | refine J.seq (J.region mixed hI (by kernel_rfl) ?_)
    | refine J.region mixed hI (by kernel_rfl) ?_
    | refine J.seq (J.seq (J.region mixed hI (by kernel_rfl) ?_))
    | refine J.condF rfl ?_
    | refine J.condT rfl ?_
    | refine J.skip ?_)
      cases top with
      | true =>
        have hmax : ∀ x ∈ es, later x es[i] = false := fun x hx => by
          have := List.all_eq_true.1 htop.symm x hx
          simpa using this
        have hlat := latest_at hlt' hbefore hmax
        have hpos : decide (0 < es.length) = true := by rw [decide_eq_true_iff]; omega
        refine J.condT rfl ?_
        repeat (first
    | refine Plan.move rfl rfl rfl rfl ?_
    | refine Plan.assign rfl rfl rfl rfl ?_
    | refine Plan.skip rfl rfl ?_
    | refine Plan.extract rfl rfl rfl rfl rfl ?_
    | refine Plan.pick rfl rfl rfl rfl rfl ?_
    | refine Plan.lenStr rfl rfl rfl rfl Try.underlying9 ?_
    | refine Plan.lenE rfl rfl rfl rfl Try.underlying40 ?_
    | (refine Plan.ints rfl rfl rfl rfl rfl rfl ?_; (first | refine Plan.int (i64u8 _) ?_ | refine Plan.int (i64r (by omega)) ?_ | refine Plan.int (u64r (by omega)) ?_ | refine Plan.int (u8r (by omega)) ?_ | refine Plan.int (u16r (by omega)) ?_ | refine Plan.int (quoN (by omega)) ?_ | refine Plan.int (remN _ _) ?_ | refine Plan.int (u8N _) ?_ | skip))
    | refine Plan.un rfl rfl rfl rfl rfl ?_
    | refine Plan.lenB rfl rfl rfl rfl (by first | exact Sub.refl _ | exact Sub.own | exact Sub.old (fun _ h => h) | exact Sub.oldOwn (fun _ h => h) | exact Sub.nilRow | exact Sub.ownLower hB | exact Sub.nilOwn (fun _ h => Nat.le_trans hB h.size)) Try.underlying40 ?_
    | (refine Plan.convInt rfl rfl rfl rfl (by first | exact Try.underlying2 | exact Try.underlying3 | exact Try.underlying5 | exact Try.underlying21 | exact Try.underlying37 | exact Try.underlying41 | exact Try.underlying59 | exact Try.underlying102) (by first | exact Try.underlying2 | exact Try.underlying3 | exact Try.underlying5 | exact Try.underlying21 | exact Try.underlying37 | exact Try.underlying41 | exact Try.underlying59 | exact Try.underlying102) ?_; (first | refine Plan.int (i64u8 _) ?_ | refine Plan.int (i64r (by omega)) ?_ | refine Plan.int (u64r (by omega)) ?_ | refine Plan.int (u8r (by omega)) ?_ | refine Plan.int (u16r (by omega)) ?_ | refine Plan.int (quoN (by omega)) ?_ | refine Plan.int (remN _ _) ?_ | refine Plan.int (u8N _) ?_ | skip))
    | refine Plan.nilOk rfl rfl rfl rfl ?_
    | refine Plan.fieldC rfl rfl rfl rfl (by first | exact Try.underlying25 | exact Try.underlying29 | exact Try.underlying31 | exact Try.underlying61 | exact Try.underlying75) rfl (by kernel_rfl) (by first | exact (rfl : _ = 0) | exact (rfl : _ = 1) | exact (rfl : _ = 2) | exact (rfl : _ = 3) | exact (rfl : _ = 4) | exact (rfl : _ = 5) | exact (rfl : _ = 6) | exact (rfl : _ = 7) | exact (rfl : _ = 8) | exact (rfl : _ = 9) | exact (rfl : _ = 10) | exact (rfl : _ = 11) | exact (rfl : _ = 12) | exact (rfl : _ = 13) | exact (rfl : _ = 14) | exact (rfl : _ = 15) | exact (rfl : _ = 16) | exact (rfl : _ = 17) | exact (rfl : _ = 18) | exact (rfl : _ = 19) | exact (rfl : _ = 20) | exact (rfl : _ = 21) | exact (rfl : _ = 22) | exact (rfl : _ = 23) | exact (rfl : _ = 24) | exact (rfl : _ = 25)) ?_
    | refine Plan.loadC (key := 1000) (q := 0) rfl rfl rfl rfl rfl rfl (obj_reads1 rfl) (by first | exact Try.underlying3 | exact Try.underlying9 | exact Try.underlying40 | exact Try.underlying4 | exact Try.underlying5 | exact Try.underlying41 | exact Try.underlying22 | exact Try.underlying57) (by rfl) (by decide) ?_
    | refine Plan.loadC (key := 1000) (q := 1) rfl rfl rfl rfl rfl rfl (obj_reads1 rfl) (by first | exact Try.underlying3 | exact Try.underlying9 | exact Try.underlying40 | exact Try.underlying4 | exact Try.underlying5 | exact Try.underlying41 | exact Try.underlying22 | exact Try.underlying57) (by rfl) (by decide) ?_
    | refine Plan.loadC (key := 1000) (q := 2) rfl rfl rfl rfl rfl rfl (obj_reads1 rfl) (by first | exact Try.underlying3 | exact Try.underlying9 | exact Try.underlying40 | exact Try.underlying4 | exact Try.underlying5 | exact Try.underlying41 | exact Try.underlying22 | exact Try.underlying57) (by rfl) (by decide) ?_
    | refine Plan.eqlPtr rfl rfl rfl rfl (by kernel_rfl) ?_
    | refine Plan.neqPtr rfl rfl rfl rfl (by kernel_rfl) ?_
    | refine J.seq (J.region mixed hI (by kernel_rfl) ?_)
    | refine J.region mixed hI (by kernel_rfl) ?_
    | refine J.seq (J.seq (J.region mixed hI (by kernel_rfl) ?_))
    | refine J.condF rfl ?_
    | refine J.condT rfl ?_
    | refine J.skip ?_)
        refine Plan.indexAddr EvV.enc 26 es ev0 rfl rfl rfl rfl (Sub.old fun _ h => h) rfl eltE encE (by omega) (by omega) ?_
        rw [Int.toNat_natCast, hget, ← hlat]
        refine Plan.loadAggP rfl rfl rfl rfl (Sub.refl _) Try.underlying31 rfl (by rw [encE]; kernel_rfl) ?_
        refine Plan.storeC (key := 1000) (q := 0) (off := 0) rfl rfl rfl rfl rfl rfl (by simp [Value.cells, Value.oneCell', EvV.enc, str]) (by show _ = some (latestV es).enc.toArray.size; kernel_rfl) rfl hA rfl (obj_pat (Nat.le_of_ble_eq_true rfl)) ?_
        repeat (first
    | refine Plan.move rfl rfl rfl rfl ?_
    | refine Plan.assign rfl rfl rfl rfl ?_
    | refine Plan.skip rfl rfl ?_
    | refine Plan.extract rfl rfl rfl rfl rfl ?_
    | refine Plan.pick rfl rfl rfl rfl rfl ?_
    | refine Plan.lenStr rfl rfl rfl rfl Try.underlying9 ?_
    | refine Plan.lenE rfl rfl rfl rfl Try.underlying40 ?_
    | (refine Plan.ints rfl rfl rfl rfl rfl rfl ?_; (first | refine Plan.int (i64u8 _) ?_ | refine Plan.int (i64r (by omega)) ?_ | refine Plan.int (u64r (by omega)) ?_ | refine Plan.int (u8r (by omega)) ?_ | refine Plan.int (u16r (by omega)) ?_ | refine Plan.int (quoN (by omega)) ?_ | refine Plan.int (remN _ _) ?_ | refine Plan.int (u8N _) ?_ | skip))
    | refine Plan.un rfl rfl rfl rfl rfl ?_
    | refine Plan.lenB rfl rfl rfl rfl (by first | exact Sub.refl _ | exact Sub.own | exact Sub.old (fun _ h => h) | exact Sub.oldOwn (fun _ h => h) | exact Sub.nilRow | exact Sub.ownLower hB | exact Sub.nilOwn (fun _ h => Nat.le_trans hB h.size)) Try.underlying40 ?_
    | (refine Plan.convInt rfl rfl rfl rfl (by first | exact Try.underlying2 | exact Try.underlying3 | exact Try.underlying5 | exact Try.underlying21 | exact Try.underlying37 | exact Try.underlying41 | exact Try.underlying59 | exact Try.underlying102) (by first | exact Try.underlying2 | exact Try.underlying3 | exact Try.underlying5 | exact Try.underlying21 | exact Try.underlying37 | exact Try.underlying41 | exact Try.underlying59 | exact Try.underlying102) ?_; (first | refine Plan.int (i64u8 _) ?_ | refine Plan.int (i64r (by omega)) ?_ | refine Plan.int (u64r (by omega)) ?_ | refine Plan.int (u8r (by omega)) ?_ | refine Plan.int (u16r (by omega)) ?_ | refine Plan.int (quoN (by omega)) ?_ | refine Plan.int (remN _ _) ?_ | refine Plan.int (u8N _) ?_ | skip))
    | refine Plan.nilOk rfl rfl rfl rfl ?_
    | refine Plan.fieldC rfl rfl rfl rfl (by first | exact Try.underlying25 | exact Try.underlying29 | exact Try.underlying31 | exact Try.underlying61 | exact Try.underlying75) rfl (by kernel_rfl) (by first | exact (rfl : _ = 0) | exact (rfl : _ = 1) | exact (rfl : _ = 2) | exact (rfl : _ = 3) | exact (rfl : _ = 4) | exact (rfl : _ = 5) | exact (rfl : _ = 6) | exact (rfl : _ = 7) | exact (rfl : _ = 8) | exact (rfl : _ = 9) | exact (rfl : _ = 10) | exact (rfl : _ = 11) | exact (rfl : _ = 12) | exact (rfl : _ = 13) | exact (rfl : _ = 14) | exact (rfl : _ = 15) | exact (rfl : _ = 16) | exact (rfl : _ = 17) | exact (rfl : _ = 18) | exact (rfl : _ = 19) | exact (rfl : _ = 20) | exact (rfl : _ = 21) | exact (rfl : _ = 22) | exact (rfl : _ = 23) | exact (rfl : _ = 24) | exact (rfl : _ = 25)) ?_
    | refine Plan.loadC (key := 1000) (q := 0) rfl rfl rfl rfl rfl rfl (obj_reads1 rfl) (by first | exact Try.underlying3 | exact Try.underlying9 | exact Try.underlying40 | exact Try.underlying4 | exact Try.underlying5 | exact Try.underlying41 | exact Try.underlying22 | exact Try.underlying57) (by rfl) (by decide) ?_
    | refine Plan.loadC (key := 1000) (q := 1) rfl rfl rfl rfl rfl rfl (obj_reads1 rfl) (by first | exact Try.underlying3 | exact Try.underlying9 | exact Try.underlying40 | exact Try.underlying4 | exact Try.underlying5 | exact Try.underlying41 | exact Try.underlying22 | exact Try.underlying57) (by rfl) (by decide) ?_
    | refine Plan.loadC (key := 1000) (q := 2) rfl rfl rfl rfl rfl rfl (obj_reads1 rfl) (by first | exact Try.underlying3 | exact Try.underlying9 | exact Try.underlying40 | exact Try.underlying4 | exact Try.underlying5 | exact Try.underlying41 | exact Try.underlying22 | exact Try.underlying57) (by rfl) (by decide) ?_
    | refine Plan.eqlPtr rfl rfl rfl rfl (by kernel_rfl) ?_
    | refine Plan.neqPtr rfl rfl rfl rfl (by kernel_rfl) ?_
    | refine J.seq (J.region mixed hI (by kernel_rfl) ?_)
    | refine J.region mixed hI (by kernel_rfl) ?_
    | refine J.seq (J.seq (J.region mixed hI (by kernel_rfl) ?_))
    | refine J.condF rfl ?_
    | refine J.condT rfl ?_
    | refine J.skip ?_)
        refine J.convC (key := 1000) (q := 0) (c2 := obj a (latestV es).enc) rfl rfl (Ent.of_eq rfl) ?_
        rw [hpos]
        exact J.ret (Nrm.retCT (key := 1000) (q := 0) rfl (fun _ h => h) rfl rfl rfl obj_whole Try.underlying31 rfl (by rw [encE]; kernel_rfl) fun B _ => ⟨_, _, rfl, rfl, Sub.refl _⟩)
      | false =>
        have hsome : ∃ x ∈ es, later x es[i] = true := by
          have h0 : ¬ es.all (fun x => !later x es[i]) = true := by rw [← htop]; simp
          rw [List.all_eq_true] at h0
          simp at h0
          exact h0
        refine J.condF rfl ?_
        repeat (first
    | refine Plan.move rfl rfl rfl rfl ?_
    | refine Plan.assign rfl rfl rfl rfl ?_
    | refine Plan.skip rfl rfl ?_
    | refine Plan.extract rfl rfl rfl rfl rfl ?_
    | refine Plan.pick rfl rfl rfl rfl rfl ?_
    | refine Plan.lenStr rfl rfl rfl rfl Try.underlying9 ?_
    | refine Plan.lenE rfl rfl rfl rfl Try.underlying40 ?_
    | (refine Plan.ints rfl rfl rfl rfl rfl rfl ?_; (first | refine Plan.int (i64u8 _) ?_ | refine Plan.int (i64r (by omega)) ?_ | refine Plan.int (u64r (by omega)) ?_ | refine Plan.int (u8r (by omega)) ?_ | refine Plan.int (u16r (by omega)) ?_ | refine Plan.int (quoN (by omega)) ?_ | refine Plan.int (remN _ _) ?_ | refine Plan.int (u8N _) ?_ | skip))
    | refine Plan.un rfl rfl rfl rfl rfl ?_
    | refine Plan.lenB rfl rfl rfl rfl (by first | exact Sub.refl _ | exact Sub.own | exact Sub.old (fun _ h => h) | exact Sub.oldOwn (fun _ h => h) | exact Sub.nilRow | exact Sub.ownLower hB | exact Sub.nilOwn (fun _ h => Nat.le_trans hB h.size)) Try.underlying40 ?_
    | (refine Plan.convInt rfl rfl rfl rfl (by first | exact Try.underlying2 | exact Try.underlying3 | exact Try.underlying5 | exact Try.underlying21 | exact Try.underlying37 | exact Try.underlying41 | exact Try.underlying59 | exact Try.underlying102) (by first | exact Try.underlying2 | exact Try.underlying3 | exact Try.underlying5 | exact Try.underlying21 | exact Try.underlying37 | exact Try.underlying41 | exact Try.underlying59 | exact Try.underlying102) ?_; (first | refine Plan.int (i64u8 _) ?_ | refine Plan.int (i64r (by omega)) ?_ | refine Plan.int (u64r (by omega)) ?_ | refine Plan.int (u8r (by omega)) ?_ | refine Plan.int (u16r (by omega)) ?_ | refine Plan.int (quoN (by omega)) ?_ | refine Plan.int (remN _ _) ?_ | refine Plan.int (u8N _) ?_ | skip))
    | refine Plan.nilOk rfl rfl rfl rfl ?_
    | refine Plan.fieldC rfl rfl rfl rfl (by first | exact Try.underlying25 | exact Try.underlying29 | exact Try.underlying31 | exact Try.underlying61 | exact Try.underlying75) rfl (by kernel_rfl) (by first | exact (rfl : _ = 0) | exact (rfl : _ = 1) | exact (rfl : _ = 2) | exact (rfl : _ = 3) | exact (rfl : _ = 4) | exact (rfl : _ = 5) | exact (rfl : _ = 6) | exact (rfl : _ = 7) | exact (rfl : _ = 8) | exact (rfl : _ = 9) | exact (rfl : _ = 10) | exact (rfl : _ = 11) | exact (rfl : _ = 12) | exact (rfl : _ = 13) | exact (rfl : _ = 14) | exact (rfl : _ = 15) | exact (rfl : _ = 16) | exact (rfl : _ = 17) | exact (rfl : _ = 18) | exact (rfl : _ = 19) | exact (rfl : _ = 20) | exact (rfl : _ = 21) | exact (rfl : _ = 22) | exact (rfl : _ = 23) | exact (rfl : _ = 24) | exact (rfl : _ = 25)) ?_
    | refine Plan.loadC (key := 1000) (q := 0) rfl rfl rfl rfl rfl rfl (obj_reads1 rfl) (by first | exact Try.underlying3 | exact Try.underlying9 | exact Try.underlying40 | exact Try.underlying4 | exact Try.underlying5 | exact Try.underlying41 | exact Try.underlying22 | exact Try.underlying57) (by rfl) (by decide) ?_
    | refine Plan.loadC (key := 1000) (q := 1) rfl rfl rfl rfl rfl rfl (obj_reads1 rfl) (by first | exact Try.underlying3 | exact Try.underlying9 | exact Try.underlying40 | exact Try.underlying4 | exact Try.underlying5 | exact Try.underlying41 | exact Try.underlying22 | exact Try.underlying57) (by rfl) (by decide) ?_
    | refine Plan.loadC (key := 1000) (q := 2) rfl rfl rfl rfl rfl rfl (obj_reads1 rfl) (by first | exact Try.underlying3 | exact Try.underlying9 | exact Try.underlying40 | exact Try.underlying4 | exact Try.underlying5 | exact Try.underlying41 | exact Try.underlying22 | exact Try.underlying57) (by rfl) (by decide) ?_
    | refine Plan.eqlPtr rfl rfl rfl rfl (by kernel_rfl) ?_
    | refine Plan.neqPtr rfl rfl rfl rfl (by kernel_rfl) ?_
    | refine J.seq (J.region mixed hI (by kernel_rfl) ?_)
    | refine J.region mixed hI (by kernel_rfl) ?_
    | refine J.seq (J.seq (J.region mixed hI (by kernel_rfl) ?_))
    | refine J.condF rfl ?_
    | refine J.condT rfl ?_
    | refine J.skip ?_)
        refine Plan.int (y := ((i + 1 : Nat) : Int)) (by omega) ?_
        refine Nrm.next (i + 1) ⟨hlt', fun j hj => ?_⟩ (by omega) (by repeat (first | exact Weak.nil | refine Weak.cons rfl (Sub.refl _) ?_))
        by_cases hji : j = i
        · subst hji; rw [hget]; exact hsome
        · exact hbefore j (by omega)
  · have hie : i = es.length := by omega
    subst hie
    have hnil : es = [] := by
      by_cases hn : es = []
      · exact hn
      · exfalso
        obtain ⟨j, hj⟩ := List.getElem?_of_mem (latest_mem hn)
        obtain ⟨x, hx, hxl⟩ := hbefore j (List.getElem?_eq_some_iff.1 hj).1
        rw [List.getD_eq_getElem?_getD, hj, Option.getD_some, latest_max es x hx] at hxl
        cases hxl
    subst hnil
    refine J.exit ?_
    repeat (first
    | refine Plan.move rfl rfl rfl rfl ?_
    | refine Plan.assign rfl rfl rfl rfl ?_
    | refine Plan.skip rfl rfl ?_
    | refine Plan.extract rfl rfl rfl rfl rfl ?_
    | refine Plan.pick rfl rfl rfl rfl rfl ?_
    | refine Plan.lenStr rfl rfl rfl rfl Try.underlying9 ?_
    | refine Plan.lenE rfl rfl rfl rfl Try.underlying40 ?_
    | (refine Plan.ints rfl rfl rfl rfl rfl rfl ?_; (first | refine Plan.int (i64u8 _) ?_ | refine Plan.int (i64r (by omega)) ?_ | refine Plan.int (u64r (by omega)) ?_ | refine Plan.int (u8r (by omega)) ?_ | refine Plan.int (u16r (by omega)) ?_ | refine Plan.int (quoN (by omega)) ?_ | refine Plan.int (remN _ _) ?_ | refine Plan.int (u8N _) ?_ | skip))
    | refine Plan.un rfl rfl rfl rfl rfl ?_
    | refine Plan.lenB rfl rfl rfl rfl (by first | exact Sub.refl _ | exact Sub.own | exact Sub.old (fun _ h => h) | exact Sub.oldOwn (fun _ h => h) | exact Sub.nilRow | exact Sub.ownLower hB | exact Sub.nilOwn (fun _ h => Nat.le_trans hB h.size)) Try.underlying40 ?_
    | (refine Plan.convInt rfl rfl rfl rfl (by first | exact Try.underlying2 | exact Try.underlying3 | exact Try.underlying5 | exact Try.underlying21 | exact Try.underlying37 | exact Try.underlying41 | exact Try.underlying59 | exact Try.underlying102) (by first | exact Try.underlying2 | exact Try.underlying3 | exact Try.underlying5 | exact Try.underlying21 | exact Try.underlying37 | exact Try.underlying41 | exact Try.underlying59 | exact Try.underlying102) ?_; (first | refine Plan.int (i64u8 _) ?_ | refine Plan.int (i64r (by omega)) ?_ | refine Plan.int (u64r (by omega)) ?_ | refine Plan.int (u8r (by omega)) ?_ | refine Plan.int (u16r (by omega)) ?_ | refine Plan.int (quoN (by omega)) ?_ | refine Plan.int (remN _ _) ?_ | refine Plan.int (u8N _) ?_ | skip))
    | refine Plan.nilOk rfl rfl rfl rfl ?_
    | refine Plan.fieldC rfl rfl rfl rfl (by first | exact Try.underlying25 | exact Try.underlying29 | exact Try.underlying31 | exact Try.underlying61 | exact Try.underlying75) rfl (by kernel_rfl) (by first | exact (rfl : _ = 0) | exact (rfl : _ = 1) | exact (rfl : _ = 2) | exact (rfl : _ = 3) | exact (rfl : _ = 4) | exact (rfl : _ = 5) | exact (rfl : _ = 6) | exact (rfl : _ = 7) | exact (rfl : _ = 8) | exact (rfl : _ = 9) | exact (rfl : _ = 10) | exact (rfl : _ = 11) | exact (rfl : _ = 12) | exact (rfl : _ = 13) | exact (rfl : _ = 14) | exact (rfl : _ = 15) | exact (rfl : _ = 16) | exact (rfl : _ = 17) | exact (rfl : _ = 18) | exact (rfl : _ = 19) | exact (rfl : _ = 20) | exact (rfl : _ = 21) | exact (rfl : _ = 22) | exact (rfl : _ = 23) | exact (rfl : _ = 24) | exact (rfl : _ = 25)) ?_
    | refine Plan.loadC (key := 1000) (q := 0) rfl rfl rfl rfl rfl rfl (obj_reads1 rfl) (by first | exact Try.underlying3 | exact Try.underlying9 | exact Try.underlying40 | exact Try.underlying4 | exact Try.underlying5 | exact Try.underlying41 | exact Try.underlying22 | exact Try.underlying57) (by rfl) (by decide) ?_
    | refine Plan.loadC (key := 1000) (q := 1) rfl rfl rfl rfl rfl rfl (obj_reads1 rfl) (by first | exact Try.underlying3 | exact Try.underlying9 | exact Try.underlying40 | exact Try.underlying4 | exact Try.underlying5 | exact Try.underlying41 | exact Try.underlying22 | exact Try.underlying57) (by rfl) (by decide) ?_
    | refine Plan.loadC (key := 1000) (q := 2) rfl rfl rfl rfl rfl rfl (obj_reads1 rfl) (by first | exact Try.underlying3 | exact Try.underlying9 | exact Try.underlying40 | exact Try.underlying4 | exact Try.underlying5 | exact Try.underlying41 | exact Try.underlying22 | exact Try.underlying57) (by rfl) (by decide) ?_
    | refine Plan.eqlPtr rfl rfl rfl rfl (by kernel_rfl) ?_
    | refine Plan.neqPtr rfl rfl rfl rfl (by kernel_rfl) ?_
    | refine J.seq (J.region mixed hI (by kernel_rfl) ?_)
    | refine J.region mixed hI (by kernel_rfl) ?_
    | refine J.seq (J.seq (J.region mixed hI (by kernel_rfl) ?_))
    | refine J.condF rfl ?_
    | refine J.condT rfl ?_
    | refine J.skip ?_)
    refine Plan.build rfl rfl rfl Parts.nil (cells := ev0.enc.toArray) (by kernel_rfl) ?_
    refine Plan.storeC (key := 1000) (q := 0) (off := 0) rfl rfl rfl rfl rfl rfl (by simp [Value.cells, Value.oneCell', EvV.enc, str]) (by show _ = some ev0.enc.toArray.size; kernel_rfl) rfl hA rfl (obj_pat (Nat.le_of_ble_eq_true rfl)) ?_
    repeat (first
    | refine Plan.move rfl rfl rfl rfl ?_
    | refine Plan.assign rfl rfl rfl rfl ?_
    | refine Plan.skip rfl rfl ?_
    | refine Plan.extract rfl rfl rfl rfl rfl ?_
    | refine Plan.pick rfl rfl rfl rfl rfl ?_
    | refine Plan.lenStr rfl rfl rfl rfl Try.underlying9 ?_
    | refine Plan.lenE rfl rfl rfl rfl Try.underlying40 ?_
    | (refine Plan.ints rfl rfl rfl rfl rfl rfl ?_; (first | refine Plan.int (i64u8 _) ?_ | refine Plan.int (i64r (by omega)) ?_ | refine Plan.int (u64r (by omega)) ?_ | refine Plan.int (u8r (by omega)) ?_ | refine Plan.int (u16r (by omega)) ?_ | refine Plan.int (quoN (by omega)) ?_ | refine Plan.int (remN _ _) ?_ | refine Plan.int (u8N _) ?_ | skip))
    | refine Plan.un rfl rfl rfl rfl rfl ?_
    | refine Plan.lenB rfl rfl rfl rfl (by first | exact Sub.refl _ | exact Sub.own | exact Sub.old (fun _ h => h) | exact Sub.oldOwn (fun _ h => h) | exact Sub.nilRow | exact Sub.ownLower hB | exact Sub.nilOwn (fun _ h => Nat.le_trans hB h.size)) Try.underlying40 ?_
    | (refine Plan.convInt rfl rfl rfl rfl (by first | exact Try.underlying2 | exact Try.underlying3 | exact Try.underlying5 | exact Try.underlying21 | exact Try.underlying37 | exact Try.underlying41 | exact Try.underlying59 | exact Try.underlying102) (by first | exact Try.underlying2 | exact Try.underlying3 | exact Try.underlying5 | exact Try.underlying21 | exact Try.underlying37 | exact Try.underlying41 | exact Try.underlying59 | exact Try.underlying102) ?_; (first | refine Plan.int (i64u8 _) ?_ | refine Plan.int (i64r (by omega)) ?_ | refine Plan.int (u64r (by omega)) ?_ | refine Plan.int (u8r (by omega)) ?_ | refine Plan.int (u16r (by omega)) ?_ | refine Plan.int (quoN (by omega)) ?_ | refine Plan.int (remN _ _) ?_ | refine Plan.int (u8N _) ?_ | skip))
    | refine Plan.nilOk rfl rfl rfl rfl ?_
    | refine Plan.fieldC rfl rfl rfl rfl (by first | exact Try.underlying25 | exact Try.underlying29 | exact Try.underlying31 | exact Try.underlying61 | exact Try.underlying75) rfl (by kernel_rfl) (by first | exact (rfl : _ = 0) | exact (rfl : _ = 1) | exact (rfl : _ = 2) | exact (rfl : _ = 3) | exact (rfl : _ = 4) | exact (rfl : _ = 5) | exact (rfl : _ = 6) | exact (rfl : _ = 7) | exact (rfl : _ = 8) | exact (rfl : _ = 9) | exact (rfl : _ = 10) | exact (rfl : _ = 11) | exact (rfl : _ = 12) | exact (rfl : _ = 13) | exact (rfl : _ = 14) | exact (rfl : _ = 15) | exact (rfl : _ = 16) | exact (rfl : _ = 17) | exact (rfl : _ = 18) | exact (rfl : _ = 19) | exact (rfl : _ = 20) | exact (rfl : _ = 21) | exact (rfl : _ = 22) | exact (rfl : _ = 23) | exact (rfl : _ = 24) | exact (rfl : _ = 25)) ?_
    | refine Plan.loadC (key := 1000) (q := 0) rfl rfl rfl rfl rfl rfl (obj_reads1 rfl) (by first | exact Try.underlying3 | exact Try.underlying9 | exact Try.underlying40 | exact Try.underlying4 | exact Try.underlying5 | exact Try.underlying41 | exact Try.underlying22 | exact Try.underlying57) (by rfl) (by decide) ?_
    | refine Plan.loadC (key := 1000) (q := 1) rfl rfl rfl rfl rfl rfl (obj_reads1 rfl) (by first | exact Try.underlying3 | exact Try.underlying9 | exact Try.underlying40 | exact Try.underlying4 | exact Try.underlying5 | exact Try.underlying41 | exact Try.underlying22 | exact Try.underlying57) (by rfl) (by decide) ?_
    | refine Plan.loadC (key := 1000) (q := 2) rfl rfl rfl rfl rfl rfl (obj_reads1 rfl) (by first | exact Try.underlying3 | exact Try.underlying9 | exact Try.underlying40 | exact Try.underlying4 | exact Try.underlying5 | exact Try.underlying41 | exact Try.underlying22 | exact Try.underlying57) (by rfl) (by decide) ?_
    | refine Plan.eqlPtr rfl rfl rfl rfl (by kernel_rfl) ?_
    | refine Plan.neqPtr rfl rfl rfl rfl (by kernel_rfl) ?_
    | refine J.seq (J.region mixed hI (by kernel_rfl) ?_)
    | refine J.region mixed hI (by kernel_rfl) ?_
    | refine J.seq (J.seq (J.region mixed hI (by kernel_rfl) ?_))
    | refine J.condF rfl ?_
    | refine J.condT rfl ?_
    | refine J.skip ?_)
    refine J.convC (key := 1000) (q := 0) (c2 := obj a ev0.enc) rfl rfl (Ent.of_eq rfl) ?_
    exact J.ret (Nrm.retCT (key := 1000) (q := 0) rfl (fun _ h => h) rfl rfl rfl obj_whole Try.underlying31 rfl (by rw [encE]; kernel_rfl) fun B _ => ⟨_, _, rfl, rfl, Sub.refl _⟩)
end Go.Proofs.Ythjneijkapopoaa
