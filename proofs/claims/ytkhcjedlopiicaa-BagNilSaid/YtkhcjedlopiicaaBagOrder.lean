/-
  The law BagOrder returns true for all arguments.
-/
import Derived.Test.YtkhcjedlopiicaaBagCmp
import Derived.Test.YtkhcjedlopiicaaBagPlain4
set_option linter.unusedSimpArgs false
set_option linter.unusedVariables false
set_option maxRecDepth 20000
namespace Go.Proofs.Ytkhcjedlopiicaa
open Go.Free Go.RowKit Go.Proofs
set_option maxHeartbeats 8000000

theorem before_fn' (a b : Dt) : Spc Try.prog 18 [.ex (aggD a.1 a.2), .ex (aggD b.1 b.2)] fun _ => .ex (.bool (decide (a.1 < b.1 ∨ (a.1 = b.1 ∧ a.2 < b.2)))) := by
  refine Spc.intro Try.func18 rfl (Nat.le_of_ble_eq_true rfl) fun w0 => ?_
  have hI := hIb w0
  have hA := Own.below w0
  refine J.heap0 1000 (newB w0) ?_
  repeat' (first | refine Plan.move rfl rfl rfl rfl ?_ | refine Plan.assign rfl rfl rfl rfl ?_ | refine Plan.skip rfl rfl ?_ | refine Plan.pick rfl rfl rfl rfl rfl ?_ | (refine Plan.ints rfl rfl rfl rfl rfl rfl ?_; (skip)) | refine Plan.fieldC rfl rfl rfl rfl (by first | exact Try.underlying86 | exact Try.underlying28) rfl (by kernel_rfl) (by first | exact (rfl : _ = 0) | exact (rfl : _ = 1)) ?_ | refine Plan.loadC (key := 1000) (q := 0) rfl rfl rfl rfl rfl rfl (obj_reads1 rfl) (by exact Try.underlying3) (by rfl) (by decide) ?_ | refine Plan.loadC (key := 1000) (q := 1) rfl rfl rfl rfl rfl rfl (obj_reads1 rfl) (by exact Try.underlying3) (by rfl) (by decide) ?_ | refine J.seq (J.region mixed hI (by kernel_rfl) ?_) | refine Plan.boxC (key := 1000) rfl rfl rfl (by intro _ e; cases e; decide) rfl rfl hA fun _ => ?_ | refine Plan.splitD (fun _ => ?_) (fun _ => ?_))
  all_goals exact J.ret (Nrm.ret1 rfl (fun _ h => h) rfl fun B _ => Sub.of_eq (congrArg (fun b => Fa.ex (.bool b)) (by
    first
    | refine (decide_eq_true ?_).symm
    | refine (decide_eq_false ?_).symm
    | refine decide_eq_decide.2 ?_
    | refine beq_decide ?_
    | refine bne_decide ?_
    all_goals ((try simp only [fieldP, valueP, numP, refP, kindP, addP, dotP, hasP, rightVP] at *); omega))))
theorem before_fn (a b : Dt) : Spc Try.prog 18 [.ex (aggD a.1 a.2), .ex (aggD b.1 b.2)] fun _ => .ex (.bool (decide (dlt a b))) := by
  have h := before_fn' a b
  have e : decide (a.1 < b.1 ∨ (a.1 = b.1 ∧ a.2 < b.2)) = decide (dlt a b) := decide_eq_decide.2 Iff.rfl
  rw [e] at h; exact h
def orD (w0 : World) (l : List (Dt × Int)) (a b : Nat) (i : Nat) (B : List (Dt × Int)) : Env :=
  [(0, old w0 (itemsF l)), (3, .ex (ptr a)), (4, .ex (ptr b)), (5, .ex (vi B.length)), (33, .ex (vi l.length)), (34, .ex (vi i)), (1000, heap (newB w0) [bagCI a B, bagCI b []])]
def orE (w0 : World) (l : List (Dt × Int)) (a b : Nat) (i : Nat) : Env := orD w0 l a b i (putAll [] (l.take i))
def orK (w0 : World) (l : List (Dt × Int)) (d : Dt) (m : Nat) (B : List (Dt × Int)) (a b : Nat) (i : Nat) (k : Nat) : Env :=
  [(0, old w0 (itemsF l)), (3, .ex (ptr a)), (4, .ex (ptr b)), (5, .ex (vi m)), (6, .ex (vi i)), (7, .ex (.bool (!hereD (putAll [] (l.take k)) d))), (8, .ex (vi k)), (33, .ex (vi l.length)), (34, .ex (vi i)), (1000, heap (newB w0) [bagCI a B, bagCI b []])]
def orL (w0 : World) (l : List (Dt × Int)) (m : Nat) (B : List (Dt × Int)) (a b : Nat) (i : Nat) (k : Nat) (f : Bool) : Env :=
  [(0, old w0 (itemsF l)), (3, .ex (ptr a)), (4, .ex (ptr b)), (5, .ex (vi m)), (6, .ex (vi i)), (7, .ex (.bool f)), (8, .ex (vi k)), (33, .ex (vi l.length)), (34, .ex (vi i)), (1000, heap (newB w0) [bagCI a B, bagCI b []])]
def orG (w0 : World) (l L : List (Dt × Int)) (a b : Nat) (B1 : Option Addr) (c1 : Nat) (i : Nat) : Env :=
  [(0, old w0 (itemsF l)), (4, .ex (ptr b)), (9, .ex (.slice B1 L.length c1)), (79, .ex (vi L.length)), (80, .ex (vi i)), (1000, heap (newB w0) [bagCI a L, bagCI b [], rowII B1 L.length c1 (L.flatMap itI)])]
def orI (w0 : World) (l L : List (Dt × Int)) (a b : Nat) (B1 : Option Addr) (c1 : Nat) (i k : Nat) (last : Int) : Env :=
  [(0, old w0 (itemsF l)), (4, .ex (ptr b)), (9, .ex (.slice B1 L.length c1)), (10, .ex (vi i)), (11, .ex (vi last)), (79, .ex (vi L.length)), (80, .ex (vi i)), (84, .ex (vi l.length)), (85, .ex (vi k)), (1000, heap (newB w0) [bagCI a L, bagCI b [], rowII B1 L.length c1 (L.flatMap itI)])]
def orH (w0 : World) (l L : List (Dt × Int)) (a b : Nat) (B1 : Option Addr) (c1 : Nat) (i : Nat) (s : Nat × Int) : Env := orI w0 l L a b B1 c1 i s.1 s.2
def lastOk (l : List (Dt × Int)) (d : Dt) (k : Nat) (last : Int) : Prop :=
  (last = -1 ∧ ∀ (j : Nat) y, l[j]? = some y → j < k → y.1 ≠ d) ∨ ∃ n : Nat, last = n ∧ n < k ∧ (∃ y, l[n]? = some y ∧ y.1 = d) ∧ ∀ (j : Nat) y, n < j → j < k → l[j]? = some y → y.1 ≠ d
theorem lastOk_is {l : List (Dt × Int)} {x : Dt × Int} {last : Int} {k0 : Nat} (h : lastOk l x.1 l.length last) (h1 : l[k0]? = some x) (h2 : ∀ (j : Nat) y, k0 < j → l[j]? = some y → y.1 ≠ x.1) : last = k0 := by
  have hk := (List.getElem?_eq_some_iff.1 h1).1
  rcases h with ⟨_, h3⟩ | ⟨n, rfl, hn, ⟨y, hy, hyd⟩, h4⟩
  · exact absurd rfl (h3 k0 x h1 hk)
  · rcases Nat.lt_trichotomy n k0 with h5 | h5 | h5
    · exact absurd rfl (h4 k0 x h5 hk h1)
    · rw [h5]
    · exact absurd hyd (h2 n y h5 hy)
def orP (w0 : World) (L : List (Dt × Int)) (a b : Nat) (B1 : Option Addr) (c1 : Nat) (j : Nat) (C : List (Dt × Int)) : Env :=
  [(4, .ex (ptr b)), (9, .ex (.slice B1 L.length c1)), (13, .ex (vi ((L.length : Int) - 1 - j))), (1000, heap (newB w0) [bagCI a L, bagCI b C, rowII B1 L.length c1 (L.flatMap itI)])]
def orQ (w0 : World) (L : List (Dt × Int)) (a b : Nat) (B1 : Option Addr) (c1 : Nat) (j : Nat) : Env := orP w0 L a b B1 c1 j (putAll [] (L.reverse.take j))
def orZ (K : List (Dt × Int)) (i : Nat) : Env :=
  [(9, row 3 (K.flatMap itI)), (14, row 3 (K.flatMap itI)), (163, .ex (vi K.length)), (164, .ex (vi i))]
theorem lawOrderB (l : List (Dt × Int)) (hl : l.length ≤ 9223372036854775807) (hok : ∀ x ∈ l, okI x) :
    Spc Try.prog 3 [itemsF l] fun _ => .ex (.bool true) := by
  refine Spc.intro Try.func3 rfl (Nat.le_of_ble_eq_true rfl) fun w0 => ?_
  have hI := hIb w0
  have hA := Own.below w0
  refine J.heap0 1000 (newB w0) ?_
  repeat (first | refine Plan.assign rfl rfl rfl rfl ?_ | refine J.seq (J.region mixed hI (by kernel_rfl) ?_) | refine J.seq (J.seq (J.region mixed hI (by kernel_rfl) ?_)))
  refine Plan.call (B := w0.heap.size) rfl rfl rfl (awakeB_fn) Try.func14 rfl rfl (hBb w0) (by repeat (exact Opnds.nil)) ?_
  repeat (first | refine Plan.move rfl rfl rfl rfl ?_ | refine Plan.un rfl rfl rfl rfl rfl ?_)
  refine Plan.lenRow (m := l.length) rfl rfl rfl rfl (Sub.old fun _ h => h) Try.underlying22 (by rw [flat_len itLI]) (by decide) ?_
  repeat (first | refine Plan.pick rfl rfl rfl rfl rfl ?_ | (refine Plan.ints rfl rfl rfl rfl rfl rfl ?_; (skip)))
  refine J.condD rfl (fun hc => ?_) (fun hc => ?_)
  · repeat (refine J.seq (J.region mixed hI (by kernel_rfl) ?_))
    refine Plan.call (B := w0.heap.size) rfl rfl rfl (awakeB_fn) Try.func14 rfl rfl (hBb w0) (by repeat (exact Opnds.nil)) ?_
    repeat (refine Plan.assign rfl rfl rfl rfl ?_)
    exact J.ret (Nrm.ret1 rfl (fun _ h => h) rfl fun B _ => Sub.refl _)
  have hsm : l.length ≤ 300 := by omega
  repeat (first | refine J.seq (J.region mixed hI (by kernel_rfl) ?_) | refine J.skip ?_)
  refine Plan.callN (key := 1000) rfl rfl rfl (new_fnI) Try.func15 rfl rfl (by intro _ e; cases e; decide) (by repeat (exact Opnds.nil)) rfl hA ?_
  intro a _
  refine Plan.callN (key := 1000) rfl rfl rfl (new_fnI) Try.func15 rfl rfl (by intro _ e; cases e; decide) (by repeat (exact Opnds.nil)) rfl hA ?_
  intro b _
  repeat (first | refine Plan.move rfl rfl rfl rfl ?_ | refine Plan.assign rfl rfl rfl rfl ?_ | refine Plan.pick rfl rfl rfl rfl rfl ?_ | refine Plan.eqlPtr rfl rfl rfl rfl (by kernel_rfl) ?_ | refine J.seq (J.region mixed hI (by kernel_rfl) ?_) | refine J.seq (J.seq (J.region mixed hI (by kernel_rfl) ?_)) | refine J.condF rfl ?_ | refine J.skip ?_)
  refine Plan.lenRow (m := l.length) rfl rfl rfl rfl (Sub.old fun _ h => h) Try.underlying22 (by rw [flat_len itLI]) (by decide) ?_
  repeat (refine Plan.move rfl rfl rfl rfl ?_)
  refine J.block (J.loop (orE w0 l a b) (fun i => i ≤ l.length) (fun i => l.length - i) 0 (Nat.zero_le _) ?_ ?_)
  · repeat (first | exact Weak.nil | refine Weak.cons rfl (Sub.refl _) ?_)
  intro i hi
  repeat (first | (refine Plan.ints rfl rfl rfl rfl rfl rfl ?_; (skip)) | refine J.seq (J.region mixed hI (by kernel_rfl) ?_))
  refine J.seq (J.condD rfl (fun hc => ?_) (fun hc => ?_))
  · have hlt : i < l.length := by omega
    have hx : l[i]? = some l[i] := List.getElem?_eq_getElem hlt
    have hgd : l.getD i it0I = l[i] := by rw [List.getD_eq_getElem?_getD, hx]; rfl
    have hbl := len_putAll ([] : List (Dt × Int)) (l.take i)
    rw [List.length_take, List.length_nil] at hbl
    have hoi := hok _ (List.getElem_mem hlt)
    repeat (refine J.skip ?_)
    refine J.seq (J.block ?_)
    repeat (first | refine Plan.move rfl rfl rfl rfl ?_ | refine Plan.assign rfl rfl rfl rfl ?_ | refine J.seq (J.region mixed hI (by kernel_rfl) ?_))
    refine Plan.indexAddr itI 3 l it0I rfl rfl rfl rfl (Sub.old fun _ h => h) rfl eltRef itLI (by omega) (by omega) ?_
    rw [Int.toNat_natCast, hgd]
    refine Plan.fieldPtr (us := [vi l[i].1.1, vi l[i].1.2]) rfl rfl rfl rfl (Sub.refl _) Try.underlying30 rfl (by kernel_rfl) rfl ?_
    refine Plan.loadAggP rfl rfl rfl rfl (Sub.refl _) Try.underlying28 rfl (by kernel_rfl) ?_
    repeat (refine Plan.move rfl rfl rfl rfl ?_)
    refine Plan.indexAddr itI 3 l it0I rfl rfl rfl rfl (Sub.old fun _ h => h) rfl eltRef itLI (by omega) (by omega) ?_
    rw [Int.toNat_natCast, hgd]
    refine Plan.fieldPtr (us := [vi l[i].2]) rfl rfl rfl rfl (Sub.refl _) Try.underlying30 rfl (by kernel_rfl) rfl ?_
    refine Plan.load rfl rfl rfl rfl (Sub.refl _) Try.underlying3 rfl ?_
    refine Plan.callC (key := 1000) (q := 0) rfl rfl rfl (put_fnI a (putAll [] (l.take i)) (sorted_putAll sorted_nil _) (by omega) l[i].1 l[i].2) Try.func16 rfl rfl (by intro _ e; cases e; decide) (by repeat (first | exact Opnds.nil | refine Opnds.cons rfl (by exact Sub.refl _) ?_)) rfl hA rfl ?_
    intro _ _
    have hB' : putD (putAll [] (l.take i)) l[i].1 l[i].2 = putAll [] (l.take (i + 1)) := by rw [← putAll_snoc, ← List.take_succ_eq_append_getElem hlt]
    have hm' := len_put (putAll [] (l.take i)) l[i].1 l[i].2
    rw [hB'] at hm' ⊢
    repeat (first | refine Plan.assign rfl rfl rfl rfl ?_ | refine J.seq (J.region mixed hI (by kernel_rfl) ?_) | refine J.seq (J.seq (J.region mixed hI (by kernel_rfl) ?_)))
    refine J.block (J.loop (orK w0 l l[i].1 (putAll [] (l.take i)).length (putAll [] (l.take (i + 1))) a b i) (fun k => k ≤ i) (fun k => i - k) 0 (Nat.zero_le _) ?_ ?_)
    · repeat (first | exact Weak.nil | refine Weak.cons rfl (Sub.refl _) ?_)
    intro k hk
    repeat (first | refine Plan.move rfl rfl rfl rfl ?_ | (refine Plan.ints rfl rfl rfl rfl rfl rfl ?_; (skip)) | refine J.seq (J.seq (J.region mixed hI (by kernel_rfl) ?_)))
    refine J.condD rfl (fun hck => ?_) (fun hck => ?_)
    · have hklt : k < i := by omega
      have hxk : l[k]? = some l[k] := List.getElem?_eq_getElem (by omega)
      have hgk : l.getD k it0I = l[k] := by rw [List.getD_eq_getElem?_getD, hxk]; rfl
      have hok' := hok _ (List.getElem_mem (show k < l.length by omega))
      have hstep : hereD (putAll [] (l.take (k + 1))) l[i].1 = (decide (l[i].1 = l[k].1) || hereD (putAll [] (l.take k)) l[i].1) := by
        rw [List.take_succ_eq_append_getElem (show k < l.length by omega), putAll_snoc, here_put (sorted_putAll sorted_nil _)]
      have hsym : decide (l[i].1 = l[k].1) = decide (l[k].1 = l[i].1) := decide_eq_decide.2 eq_comm
      repeat (refine J.skip ?_)
      refine J.seq (J.block ?_)
      obtain ⟨f, hf⟩ : ∃ f, f = hereD (putAll [] (l.take k)) l[i].1 := ⟨_, rfl⟩
      have hEk : orK w0 l l[i].1 (putAll [] (l.take i)).length (putAll [] (l.take (i + 1))) a b i k = orL w0 l (putAll [] (l.take i)).length (putAll [] (l.take (i + 1))) a b i k (!f) := by unfold orK; rw [← hf]; rfl
      rw [← hf] at hstep
      rw [hEk]
      cases f with
      | true =>
        rw [Bool.or_true] at hstep
        repeat (first | refine Plan.move rfl rfl rfl rfl ?_ | refine Plan.assign rfl rfl rfl rfl ?_ | refine Plan.skip rfl rfl ?_ | refine Plan.pick rfl rfl rfl rfl rfl ?_ | (refine Plan.ints rfl rfl rfl rfl rfl rfl ?_; (refine Plan.int (i64r (by omega)) ?_)) | refine J.region mixed hI (by kernel_rfl) ?_)
        refine Plan.int (y := ((k + 1 : Nat) : Int)) (by omega) ?_
        repeat (fail)
        have hn : (!hereD (putAll [] (l.take (k + 1))) l[i].1) = false := by rw [hstep]; rfl
        refine Nrm.next (k + 1) (by omega) (by omega) ?_
        unfold orK
        rw [hn]
        repeat (first | exact Weak.nil | refine Weak.cons rfl (Sub.refl _) ?_)
      | false =>
        rw [Bool.or_false] at hstep
        repeat (first | refine Plan.move rfl rfl rfl rfl ?_ | refine J.region mixed hI (by kernel_rfl) ?_)
        refine Plan.indexAddr itI 3 l it0I rfl rfl rfl rfl (Sub.old fun _ h => h) rfl eltRef itLI (by omega) (by omega) ?_
        rw [Int.toNat_natCast, hgk]
        refine Plan.fieldPtr (us := [vi l[k].1.1, vi l[k].1.2]) rfl rfl rfl rfl (Sub.refl _) Try.underlying30 rfl (by kernel_rfl) rfl ?_
        refine Plan.loadAggP rfl rfl rfl rfl (Sub.refl _) Try.underlying28 rfl (by kernel_rfl) ?_
        repeat (refine Plan.move rfl rfl rfl rfl ?_)
        refine Plan.indexAddr itI 3 l it0I rfl rfl rfl rfl (Sub.old fun _ h => h) rfl eltRef itLI (by omega) (by omega) ?_
        rw [Int.toNat_natCast, hgd]
        refine Plan.fieldPtr (us := [vi l[i].1.1, vi l[i].1.2]) rfl rfl rfl rfl (Sub.refl _) Try.underlying30 rfl (by kernel_rfl) rfl ?_
        refine Plan.loadAggP rfl rfl rfl rfl (Sub.refl _) Try.underlying28 rfl (by kernel_rfl) ?_
        refine Plan.neqDt l[k].1 l[i].1 rfl rfl rfl rfl rfl hok'.1 hoi.1 ?_
        have hn : (!hereD (putAll [] (l.take (k + 1))) l[i].1) = !decide (l[k].1 = l[i].1) := by rw [hstep, hsym]
        repeat (first | refine Plan.move rfl rfl rfl rfl ?_ | refine Plan.assign rfl rfl rfl rfl ?_ | refine Plan.pick rfl rfl rfl rfl rfl ?_ | (refine Plan.ints rfl rfl rfl rfl rfl rfl ?_; (refine Plan.int (i64r (by omega)) ?_)) | refine J.region mixed hI (by kernel_rfl) ?_)
        refine Plan.int (y := ((k + 1 : Nat) : Int)) (by omega) ?_
        repeat (fail)
        refine Nrm.next (k + 1) (by omega) (by omega) ?_
        unfold orK
        rw [hn]
        repeat (first | exact Weak.nil | refine Weak.cons rfl (Sub.refl _) ?_)
    have hke : k = i := by omega
    subst hke
    refine J.exit ?_
    obtain ⟨f, hf⟩ : ∃ f, f = hereD (putAll [] (l.take k)) l[k].1 := ⟨_, rfl⟩
    have hEk : orK w0 l l[k].1 (putAll [] (l.take k)).length (putAll [] (l.take (k + 1))) a b k k = orL w0 l (putAll [] (l.take k)).length (putAll [] (l.take (k + 1))) a b k k (!f) := by unfold orK; rw [← hf]; rfl
    rw [hEk]
    rw [← hf] at hm'
    cases f with
    | true =>
      rw [if_pos rfl] at hm'
      repeat (first | refine Plan.move rfl rfl rfl rfl ?_ | (refine Plan.ints rfl rfl rfl rfl rfl rfl ?_; (refine Plan.int (i64r (by omega)) ?_)) | refine J.seq (J.region mixed hI (by kernel_rfl) ?_) | refine J.region mixed hI (by kernel_rfl) ?_ | refine J.condF rfl ?_ | refine J.skip ?_)
      refine Plan.int (y := ((k + 1 : Nat) : Int)) (by omega) ?_
      repeat (fail)
      refine Nrm.next (k + 1) (by omega) (by omega) ?_
      unfold orE orD
      rw [hm']
      repeat (first | exact Weak.nil | refine Weak.cons rfl (Sub.refl _) ?_)
    | false =>
      rw [if_neg (by decide)] at hm'
      repeat (first | refine Plan.move rfl rfl rfl rfl ?_ | refine Plan.assign rfl rfl rfl rfl ?_ | (refine Plan.ints rfl rfl rfl rfl rfl rfl ?_; (refine Plan.int (i64r (by omega)) ?_)) | refine J.seq (J.region mixed hI (by kernel_rfl) ?_) | refine J.region mixed hI (by kernel_rfl) ?_ | refine J.condT rfl ?_)
      refine Plan.int (y := ((k + 1 : Nat) : Int)) (by omega) ?_
      repeat (fail)
      refine Nrm.next (k + 1) (by omega) (by omega) ?_
      unfold orE orD
      rw [hm']
      repeat (first | exact Weak.nil | refine Weak.cons rfl (Sub.refl _) ?_)
  have hie : i = l.length := by omega
  subst hie
  refine J.exit ?_
  have hbl := len_putAll ([] : List (Dt × Int)) l
  rw [List.length_nil] at hbl
  have hbs := sorted_putAll (sorted_nil (α := Int)) l
  have hmem : ∀ x ∈ putAll [] l, okI x := fun x hx => by
    rcases mem_putAll sorted_nil (e := x.1) (y := x.2) hx with h | h
    · cases h
    · exact hok _ h
  have hlast : ∀ x ∈ putAll [] l, ∃ k : Nat, l[k]? = some x ∧ ∀ (j : Nat) y, k < j → l[j]? = some y → y.1 ≠ x.1 := fun x hx => by
    rcases last_putAll sorted_nil l (d := x.1) (x := x.2) hx with ⟨h, _⟩ | h
    · cases h
    · exact h
  have hE : orE w0 l a b l.length = orD w0 l a b l.length (putAll [] l) := by unfold orE; rw [List.take_length]
  rw [hE]
  obtain ⟨L, hL⟩ : ∃ L, L = putAll [] l := ⟨_, rfl⟩
  rw [← hL] at hbl hbs hmem hlast ⊢
  repeat (first | refine Plan.move rfl rfl rfl rfl ?_ | refine J.seq (J.region mixed hI (by kernel_rfl) ?_))
  refine Plan.callRO (key := 1000) rfl rfl rfl (items_fnI a L (by omega)) (fun _ => rfl) Try.func17 rfl rfl (by intro _ e; cases e; decide) (by repeat (first | exact Opnds.nil | refine Opnds.cons rfl (by exact Sub.refl _) ?_)) rfl hA Ent.left fun B1 m1 c1 hm1 => ?_
  obtain rfl : m1 = L.length := by rw [flat_len itLI] at hm1; omega
  repeat (first | refine Plan.move rfl rfl rfl rfl ?_ | refine Plan.assign rfl rfl rfl rfl ?_ | refine J.seq (J.seq (J.region mixed hI (by kernel_rfl) ?_)))
  refine Plan.lenE rfl rfl rfl rfl Try.underlying31 ?_
  repeat (first | refine Plan.move rfl rfl rfl rfl ?_ | (refine Plan.ints rfl rfl rfl rfl rfl rfl ?_; (skip)))
  refine Plan.boolv (y := false) (by simp) ?_
  repeat (first | refine Plan.move rfl rfl rfl rfl ?_ | refine J.seq (J.seq (J.region mixed hI (by kernel_rfl) ?_)) | refine J.condF rfl ?_ | refine J.skip ?_)
  refine Plan.lenE rfl rfl rfl rfl Try.underlying31 ?_
  repeat (refine Plan.move rfl rfl rfl rfl ?_)
  refine J.block (J.loop (orG w0 l L a b B1 c1) (fun i => i ≤ L.length) (fun i => L.length - i) 0 (Nat.zero_le _) ?_ ?_)
  · repeat (first | exact Weak.nil | refine Weak.cons rfl (Sub.refl _) ?_)
  intro i hi
  repeat (first | (refine Plan.ints rfl rfl rfl rfl rfl rfl ?_; (skip)) | refine J.seq (J.region mixed hI (by kernel_rfl) ?_))
  refine J.seq (J.condD rfl (fun hc => ?_) (fun hc => ?_))
  · have hlt : i < L.length := by omega
    have hLi := hmem _ (List.getElem_mem hlt)
    obtain ⟨k0, hk0, hk1⟩ := hlast _ (List.getElem_mem hlt)
    have hk0l := (List.getElem?_eq_some_iff.1 hk0).1
    refine J.factC (key := 1000) (q := 2) rfl rfl (fun w F h => row_room h) fun hrm => ?_
    obtain ⟨g, rfl⟩ : ∃ g, B1 = some ⟨g, 0, none⟩ := by
      cases B1 with
      | none => have := (hrm.2.2.2.1 rfl).1; omega
      | some ad => exact ⟨ad.block, by rw [← hrm.2.2.2.2 ad rfl]⟩
    have hat : ∀ j (hj : j < L.length), (L.flatMap itI).drop (j * 3) = itI L[j] ++ (L.drop (j + 1)).flatMap itI := fun j hj => by have := flat_at itLI L hj []; rwa [List.append_nil, List.append_nil] at this
    have hrd : ∀ j (hj : j < L.length), ((L.flatMap itI).drop (j * 3)).take 2 = [vi L[j].1.1, vi L[j].1.2] := fun j hj => by rw [hat j hj]; rfl
    have hrx : (L.flatMap itI)[i * 3 + 2]? = some (vi L[i].2) := by
      have h1 : (L.flatMap itI)[i * 3 + 2]? = ((L.flatMap itI).drop (i * 3))[2]? := by rw [List.getElem?_drop]
      rw [h1, hat i hlt]; rfl
    repeat (refine J.skip ?_)
    refine J.seq (J.block ?_)
    repeat (first | refine Plan.move rfl rfl rfl rfl ?_ | refine Plan.assign rfl rfl rfl rfl ?_ | refine J.seq (J.region mixed hI (by kernel_rfl) ?_) | refine J.seq (J.seq (J.region mixed hI (by kernel_rfl) ?_)))
    refine Plan.lenRow (m := l.length) rfl rfl rfl rfl (Sub.old fun _ h => h) Try.underlying22 (by rw [flat_len itLI]) (by decide) ?_
    repeat (refine Plan.move rfl rfl rfl rfl ?_)
    refine J.block (J.loop (orH w0 l L a b (some ⟨g, 0, none⟩) c1 i) (fun s => s.1 ≤ l.length ∧ lastOk l L[i].1 s.1 s.2) (fun s => l.length - s.1) (0, -1) ⟨Nat.zero_le _, .inl ⟨rfl, fun j y _ h => by omega⟩⟩ ?_ ?_)
    · repeat (first | exact Weak.nil | refine Weak.cons rfl (Sub.refl _) ?_)
    rintro ⟨k, last⟩ ⟨hk, hlk⟩
    simp only at hk hlk
    change J _ _ _ _ _ (orI w0 l L a b (some ⟨g, 0, none⟩) c1 i k last)
    repeat (first | (refine Plan.ints rfl rfl rfl rfl rfl rfl ?_; (skip)) | refine J.seq (J.region mixed hI (by kernel_rfl) ?_))
    refine J.seq (J.condD rfl (fun hck => ?_) (fun hck => ?_))
    · have hklt : k < l.length := by omega
      have hxk : l[k]? = some l[k] := List.getElem?_eq_getElem hklt
      have hgk : l.getD k it0I = l[k] := by rw [List.getD_eq_getElem?_getD, hxk]; rfl
      have hok' := hok _ (List.getElem_mem hklt)
      repeat (refine J.skip ?_)
      refine J.seq (J.block ?_)
      repeat (first | refine Plan.move rfl rfl rfl rfl ?_ | refine Plan.assign rfl rfl rfl rfl ?_ | refine J.seq (J.region mixed hI (by kernel_rfl) ?_))
      refine Plan.indexAddr itI 3 l it0I rfl rfl rfl rfl (Sub.old fun _ h => h) rfl eltRef itLI (by omega) (by omega) ?_
      rw [Int.toNat_natCast, hgk]
      refine Plan.fieldPtr (us := [vi l[k].1.1, vi l[k].1.2]) rfl rfl rfl rfl (Sub.refl _) Try.underlying30 rfl (by kernel_rfl) rfl ?_
      refine Plan.loadAggP rfl rfl rfl rfl (Sub.refl _) Try.underlying28 rfl (by kernel_rfl) ?_
      repeat (refine Plan.move rfl rfl rfl rfl ?_)
      refine Plan.indexC (off := i * 3) rfl rfl rfl rfl rfl eltItI hlt (by omega) ?_
      refine Plan.fieldC (off := i * 3) rfl rfl rfl rfl (by exact Try.underlying33) rfl (by kernel_rfl) rfl ?_
      refine Plan.loadAggC (key := 1000) (q := 2) (off := i * 3) (vs := [vi L[i].1.1, vi L[i].1.2]) rfl rfl rfl rfl rfl rfl (row_reads (hrd i hlt)) Try.underlying28 rfl (by kernel_rfl) (by decide) ?_
      refine Plan.eqlDt l[k].1 L[i].1 rfl rfl rfl rfl rfl hok'.1 hLi.1 ?_
      refine J.condD rfl (fun he => ?_) (fun he => ?_)
      · repeat (first | refine Plan.move rfl rfl rfl rfl ?_ | refine Plan.assign rfl rfl rfl rfl ?_ | (refine Plan.ints rfl rfl rfl rfl rfl rfl ?_; (refine Plan.int (i64r (by omega)) ?_)) | refine J.region mixed hI (by kernel_rfl) ?_)
        refine Plan.int (y := ((k + 1 : Nat) : Int)) (by omega) ?_
        repeat (fail)
        refine Nrm.next (k + 1, (k : Int)) ⟨by simp only; omega, .inr ⟨k, rfl, Nat.lt_succ_self k, ⟨_, hxk, he⟩, fun j y h1 h2 _ => by simp only at h2; omega⟩⟩ (by simp only; omega) (by repeat (first | exact Weak.nil | refine Weak.cons rfl (Sub.refl _) ?_))
      · repeat (first | refine Plan.move rfl rfl rfl rfl ?_ | (refine Plan.ints rfl rfl rfl rfl rfl rfl ?_; (refine Plan.int (i64r (by omega)) ?_)) | refine J.region mixed hI (by kernel_rfl) ?_ | refine J.skip ?_)
        refine Plan.int (y := ((k + 1 : Nat) : Int)) (by omega) ?_
        repeat (fail)
        refine Nrm.next (k + 1, last) ⟨by simp only; omega, ?_⟩ (by simp only; omega) (by repeat (first | exact Weak.nil | refine Weak.cons rfl (Sub.refl _) ?_))
        simp only
        rcases hlk with ⟨h1, h2⟩ | ⟨n, h1, h2, h3, h4⟩
        · refine .inl ⟨h1, fun j y hy hj => ?_⟩
          rcases Nat.lt_or_ge j k with h5 | h5
          · exact h2 j y hy h5
          · have : j = k := by omega
            subst this; rw [hxk] at hy; cases hy; exact he
        · refine .inr ⟨n, h1, by omega, h3, fun j y hnj hj hy => ?_⟩
          rcases Nat.lt_or_ge j k with h5 | h5
          · exact h4 j y hnj h5 hy
          · have : j = k := by omega
            subst this; rw [hxk] at hy; cases hy; exact he
    have hke : k = l.length := by omega
    subst hke
    obtain rfl := lastOk_is hlk hk0 hk1
    refine J.exit ?_
    have hgk : l.getD k0 it0I = L[i] := by rw [List.getD_eq_getElem?_getD, hk0]; rfl
    repeat (first | refine Plan.move rfl rfl rfl rfl ?_ | (refine Plan.ints rfl rfl rfl rfl rfl rfl ?_; (skip)) | refine J.seq (J.region mixed hI (by kernel_rfl) ?_))
    try refine Plan.boolv (y := false) (show decide ((k0 : Int) < 0) = false from decide_eq_false (by omega)) ?_
    repeat (fail)
    refine Plan.indexAddr itI 3 l it0I rfl rfl rfl rfl (Sub.old fun _ h => h) rfl eltRef itLI (by omega) (by omega) ?_
    rw [Int.toNat_natCast, hgk]
    refine Plan.fieldPtr (us := [vi L[i].2]) rfl rfl rfl rfl (Sub.refl _) Try.underlying30 rfl (by kernel_rfl) rfl ?_
    refine Plan.load rfl rfl rfl rfl (Sub.refl _) Try.underlying3 rfl ?_
    repeat (refine Plan.move rfl rfl rfl rfl ?_)
    refine Plan.indexC (off := i * 3) rfl rfl rfl rfl rfl eltItI hlt (by omega) ?_
    refine Plan.fieldC (off := i * 3 + 2) rfl rfl rfl rfl (by exact Try.underlying33) rfl (by kernel_rfl) rfl ?_
    refine Plan.loadC (key := 1000) (q := 2) (off := i * 3 + 2) rfl rfl rfl rfl rfl rfl (row_reads1 hrx) Try.underlying3 rfl (by decide) ?_
    repeat (first | refine Plan.move rfl rfl rfl rfl ?_ | refine Plan.pick rfl rfl rfl rfl rfl ?_ | (refine Plan.ints rfl rfl rfl rfl rfl rfl ?_; (skip)))
    refine Plan.boolv (y := false) (by simp) ?_
    repeat (first | refine Plan.move rfl rfl rfl rfl ?_ | (refine Plan.ints rfl rfl rfl rfl rfl rfl ?_; (skip)))
    refine Plan.splitD (fun hp => ?_) (fun hp => ?_)
    · have hpl : i - 1 < L.length := by omega
      have hbef : dlt L[i - 1].1 L[i].1 := sorted_at hbs (List.getElem?_eq_getElem hpl) (List.getElem?_eq_getElem hlt) (by omega)
      repeat (first | refine Plan.move rfl rfl rfl rfl ?_ | (refine Plan.ints rfl rfl rfl rfl rfl rfl ?_; (refine Plan.int (i64r (by omega)) ?_)))
      refine Plan.int (y := ((i - 1 : Nat) : Int)) (by omega) ?_
      refine Plan.indexC (off := (i - 1) * 3) rfl rfl rfl rfl rfl eltItI hpl (by omega) ?_
      refine Plan.fieldC (off := (i - 1) * 3) rfl rfl rfl rfl (by exact Try.underlying33) rfl (by kernel_rfl) rfl ?_
      refine Plan.loadAggC (key := 1000) (q := 2) (off := (i - 1) * 3) (vs := [vi L[i - 1].1.1, vi L[i - 1].1.2]) rfl rfl rfl rfl rfl rfl (row_reads (hrd (i - 1) hpl)) Try.underlying28 rfl (by kernel_rfl) (by decide) ?_
      repeat (refine Plan.move rfl rfl rfl rfl ?_)
      refine Plan.indexC (off := i * 3) rfl rfl rfl rfl rfl eltItI hlt (by omega) ?_
      refine Plan.fieldC (off := i * 3) rfl rfl rfl rfl (by exact Try.underlying33) rfl (by kernel_rfl) rfl ?_
      refine Plan.loadAggC (key := 1000) (q := 2) (off := i * 3) (vs := [vi L[i].1.1, vi L[i].1.2]) rfl rfl rfl rfl rfl rfl (row_reads (hrd i hlt)) Try.underlying28 rfl (by kernel_rfl) (by decide) ?_
      refine Plan.call (B := w0.heap.size) rfl rfl rfl (before_fn L[i - 1].1 L[i].1) Try.func18 rfl rfl (hBb w0) (by repeat (first | exact Opnds.nil | refine Opnds.cons rfl (by exact Sub.refl _) ?_)) ?_
      refine Plan.boolv (y := true) (decide_eq_true hbef) ?_
      repeat (first | refine Plan.move rfl rfl rfl rfl ?_ | refine Plan.pick rfl rfl rfl rfl rfl ?_ | (refine Plan.ints rfl rfl rfl rfl rfl rfl ?_; (refine Plan.int (i64r (by omega)) ?_)) | refine Plan.un rfl rfl rfl rfl rfl ?_ | refine J.region mixed hI (by kernel_rfl) ?_ | refine J.condF rfl ?_ | refine J.skip ?_)
      refine Plan.int (y := ((i + 1 : Nat) : Int)) (by omega) ?_
      repeat (fail)
      exact Nrm.next (i + 1) (by omega) (by omega) (by repeat (first | exact Weak.nil | refine Weak.cons rfl (Sub.refl _) ?_))
    · repeat (first | refine Plan.move rfl rfl rfl rfl ?_ | refine Plan.skip rfl rfl ?_ | refine Plan.pick rfl rfl rfl rfl rfl ?_ | (refine Plan.ints rfl rfl rfl rfl rfl rfl ?_; (refine Plan.int (i64r (by omega)) ?_)) | refine J.region mixed hI (by kernel_rfl) ?_ | refine J.condF rfl ?_ | refine J.skip ?_)
      refine Plan.int (y := ((i + 1 : Nat) : Int)) (by omega) ?_
      repeat (fail)
      exact Nrm.next (i + 1) (by omega) (by omega) (by repeat (first | exact Weak.nil | refine Weak.cons rfl (Sub.refl _) ?_))
  refine J.exit ?_
  repeat (first | refine Plan.move rfl rfl rfl rfl ?_ | refine J.seq (J.seq (J.region mixed hI (by kernel_rfl) ?_)))
  refine Plan.lenE rfl rfl rfl rfl Try.underlying31 ?_
  repeat (first | refine Plan.assign rfl rfl rfl rfl ?_ | (refine Plan.ints rfl rfl rfl rfl rfl rfl ?_; (refine Plan.int (i64r (by omega)) ?_)))
  refine Plan.int (y := (L.length : Int) - 1 - ((0 : Nat) : Int)) (by omega) ?_
  refine J.block (J.loop (orQ w0 L a b B1 c1) (fun j => j ≤ L.length) (fun j => L.length - j) 0 (Nat.zero_le _) ?_ ?_)
  · repeat (first | exact Weak.nil | refine Weak.cons rfl (Sub.refl _) ?_)
  intro j hj
  repeat (first | refine Plan.move rfl rfl rfl rfl ?_ | (refine Plan.ints rfl rfl rfl rfl rfl rfl ?_; (skip)) | refine J.seq (J.seq (J.region mixed hI (by kernel_rfl) ?_)))
  refine J.condD rfl (fun hc => ?_) (fun hc => ?_)
  · have hjl : j < L.length := by omega
    obtain ⟨q, hq⟩ : ∃ q, q = L.length - 1 - j := ⟨_, rfl⟩
    have hql : q < L.length := by omega
    refine J.factC (key := 1000) (q := 2) rfl rfl (fun w F h => row_room h) fun hrm => ?_
    obtain ⟨g, rfl⟩ : ∃ g, B1 = some ⟨g, 0, none⟩ := by
      cases B1 with
      | none => have := (hrm.2.2.2.1 rfl).1; omega
      | some ad => exact ⟨ad.block, by rw [← hrm.2.2.2.2 ad rfl]⟩
    have hat : (L.flatMap itI).drop (q * 3) = itI L[q] ++ (L.drop (q + 1)).flatMap itI := by have := flat_at itLI L hql []; rwa [List.append_nil, List.append_nil] at this
    have hrd : ((L.flatMap itI).drop (q * 3)).take 2 = [vi L[q].1.1, vi L[q].1.2] := by rw [hat]; rfl
    have hrx : (L.flatMap itI)[q * 3 + 2]? = some (vi L[q].2) := by
      have h1 : (L.flatMap itI)[q * 3 + 2]? = ((L.flatMap itI).drop (q * 3))[2]? := by rw [List.getElem?_drop]
      rw [h1, hat]; rfl
    have hcl := len_putAll ([] : List (Dt × Int)) (L.reverse.take j)
    rw [List.length_take, List.length_nil] at hcl
    have hstep : putD (putAll [] (L.reverse.take j)) L[q].1 L[q].2 = putAll [] (L.reverse.take (j + 1)) := by
      have hjr : j < L.reverse.length := by rw [List.length_reverse]; exact hjl
      have hg : L.reverse[j] = L[q] := by rw [List.getElem_reverse]; congr 1; omega
      rw [List.take_succ_eq_append_getElem hjr, putAll_snoc, hg]
    repeat (refine J.skip ?_)
    refine J.seq (J.block ?_)
    repeat (first | refine Plan.move rfl rfl rfl rfl ?_ | refine J.region mixed hI (by kernel_rfl) ?_)
    refine Plan.int (y := ((q : Nat) : Int)) (by omega) ?_
    refine Plan.indexC (off := q * 3) rfl rfl rfl rfl rfl eltItI hql (by omega) ?_
    refine Plan.fieldC (off := q * 3) rfl rfl rfl rfl (by exact Try.underlying33) rfl (by kernel_rfl) rfl ?_
    refine Plan.loadAggC (key := 1000) (q := 2) (off := q * 3) (vs := [vi L[q].1.1, vi L[q].1.2]) rfl rfl rfl rfl rfl rfl (row_reads hrd) Try.underlying28 rfl (by kernel_rfl) (by decide) ?_
    repeat (refine Plan.move rfl rfl rfl rfl ?_)
    refine Plan.int (y := ((q : Nat) : Int)) (by omega) ?_
    refine Plan.indexC (off := q * 3) rfl rfl rfl rfl rfl eltItI hql (by omega) ?_
    refine Plan.fieldC (off := q * 3 + 2) rfl rfl rfl rfl (by exact Try.underlying33) rfl (by kernel_rfl) rfl ?_
    refine Plan.loadC (key := 1000) (q := 2) (off := q * 3 + 2) rfl rfl rfl rfl rfl rfl (row_reads1 hrx) Try.underlying3 rfl (by decide) ?_
    refine Plan.callC (key := 1000) (q := 1) rfl rfl rfl (put_fnI b (putAll [] (L.reverse.take j)) (sorted_putAll sorted_nil _) (by omega) L[q].1 L[q].2) Try.func16 rfl rfl (by intro _ e; cases e; decide) (by repeat (first | exact Opnds.nil | refine Opnds.cons rfl (by exact Sub.refl _) ?_)) rfl hA rfl ?_
    intro _ _
    rw [hstep]
    repeat (first | refine Plan.move rfl rfl rfl rfl ?_ | refine Plan.assign rfl rfl rfl rfl ?_ | (refine Plan.ints rfl rfl rfl rfl rfl rfl ?_; (refine Plan.int (i64r (by omega)) ?_)) | refine J.region mixed hI (by kernel_rfl) ?_)
    refine Plan.int (y := (L.length : Int) - 1 - ((j + 1 : Nat) : Int)) (by omega) ?_
    repeat (fail)
    exact Nrm.next (j + 1) (by omega) (by omega) (by repeat (first | exact Weak.nil | refine Weak.cons rfl (Sub.refl _) ?_))
  have hje : j = L.length := by omega
  subst hje
  refine J.exit ?_
  have hE2 : orQ w0 L a b B1 c1 L.length = orP w0 L a b B1 c1 L.length L := by
    unfold orQ; rw [List.take_of_length_le (by rw [List.length_reverse]; exact Nat.le_refl _), putAll_rev hbs]
  rw [hE2]
  repeat (first | refine Plan.move rfl rfl rfl rfl ?_ | refine J.seq (J.region mixed hI (by kernel_rfl) ?_))
  refine Plan.callRO (key := 1000) rfl rfl rfl (items_fnI b L (by omega)) (fun _ => rfl) Try.func17 rfl rfl (by intro _ e; cases e; decide) (by repeat (first | exact Opnds.nil | refine Opnds.cons rfl (by exact Sub.refl _) ?_)) rfl hA (Ent.right.trans Ent.left) fun B2 m2 c2 hm2 => ?_
  obtain rfl : m2 = L.length := by rw [flat_len itLI] at hm2; omega
  repeat (first | refine Plan.move rfl rfl rfl rfl ?_ | refine Plan.assign rfl rfl rfl rfl ?_ | refine J.seq (J.seq (J.region mixed hI (by kernel_rfl) ?_)))
  refine Plan.lenE rfl rfl rfl rfl Try.underlying31 ?_
  repeat (refine Plan.move rfl rfl rfl rfl ?_)
  refine Plan.lenE rfl rfl rfl rfl Try.underlying31 ?_
  repeat ((refine Plan.ints rfl rfl rfl rfl rfl rfl ?_; (skip)))
  refine Plan.boolv (y := false) (by simp) ?_
  repeat (first | refine Plan.move rfl rfl rfl rfl ?_ | refine J.seq (J.seq (J.region mixed hI (by kernel_rfl) ?_)) | refine J.condF rfl ?_ | refine J.skip ?_)
  refine Plan.lenE rfl rfl rfl rfl Try.underlying31 ?_
  repeat (refine Plan.move rfl rfl rfl rfl ?_)
  refine J.seeC (t := 9) (key := 1000) (q := 2) rfl rfl rfl (fun w F h => row_rowH h) ?_
  refine J.seeC (t := 14) (key := 1000) (q := 3) rfl rfl rfl (fun w F h => row_rowH h) ?_
  refine J.block (J.loop (orZ L) (fun i => i ≤ L.length) (fun i => L.length - i) 0 (Nat.zero_le _) ?_ ?_)
  · repeat (first | exact Weak.nil | refine Weak.cons rfl (Sub.refl _) ?_)
  intro i hi
  repeat (first | (refine Plan.ints rfl rfl rfl rfl rfl rfl ?_; (skip)) | refine J.seq (J.region mixed hI (by kernel_rfl) ?_))
  refine J.seq (J.condD rfl (fun hc => ?_) (fun hc => ?_))
  · have hlt : i < L.length := by omega
    have hx : L[i]? = some L[i] := List.getElem?_eq_getElem hlt
    have hgd : L.getD i it0I = L[i] := by rw [List.getD_eq_getElem?_getD, hx]; rfl
    have hki := hmem _ (List.getElem_mem hlt)
    repeat (refine J.skip ?_)
    refine J.seq (J.block ?_)
    repeat (first | refine Plan.move rfl rfl rfl rfl ?_ | refine Plan.assign rfl rfl rfl rfl ?_ | refine J.seq (J.region mixed hI (by kernel_rfl) ?_))
    refine Plan.indexAddr itI 3 L it0I rfl rfl rfl rfl (Sub.refl _) rfl eltItI itLI (by omega) (by omega) ?_
    rw [Int.toNat_natCast, hgd]
    refine Plan.loadAggP rfl rfl rfl rfl (Sub.refl _) Try.underlying33 rfl (by kernel_rfl) ?_
    repeat (refine Plan.move rfl rfl rfl rfl ?_)
    refine Plan.indexAddr itI 3 L it0I rfl rfl rfl rfl (Sub.refl _) rfl eltItI itLI (by omega) (by omega) ?_
    rw [Int.toNat_natCast, hgd]
    refine Plan.loadAggP rfl rfl rfl rfl (Sub.refl _) Try.underlying33 rfl (by kernel_rfl) ?_
    refine Plan.neqIt L[i] L[i] rfl rfl rfl rfl rfl hki hki ?_
    refine Plan.boolv (y := false) (by simp) ?_
    repeat (first | refine Plan.move rfl rfl rfl rfl ?_ | (refine Plan.ints rfl rfl rfl rfl rfl rfl ?_; (refine Plan.int (i64r (by omega)) ?_)) | refine J.region mixed hI (by kernel_rfl) ?_ | refine J.condF rfl ?_ | refine J.skip ?_)
    refine Plan.int (y := ((i + 1 : Nat) : Int)) (by omega) ?_
    repeat (fail)
    exact Nrm.next (i + 1) (by omega) (by omega) (by repeat (first | exact Weak.nil | refine Weak.cons rfl (Sub.refl _) ?_))
  refine J.exit ?_
  repeat (first | refine Plan.assign rfl rfl rfl rfl ?_ | refine J.seq (J.region mixed hI (by kernel_rfl) ?_))
  exact J.ret (Nrm.ret1 rfl (fun _ h => h) rfl fun B _ => Sub.refl _)
theorem lawOrderC (ls : List (List Value)) (hl : ls.length ≤ 9223372036854775807) (hc : ∀ c ∈ ls, CellsOk kdsItem c) :
    Spc Try.prog 3 [row 3 ls.flatten] fun _ => .ex (.bool true) := by
  obtain ⟨l, h1, h2, h3⟩ := items_of ls hc
  rw [h2]
  exact lawOrderB l (by omega) h3
end Go.Proofs.Ytkhcjedlopiicaa
