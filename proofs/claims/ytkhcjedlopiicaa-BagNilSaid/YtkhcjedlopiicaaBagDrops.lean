/-
  The law BagDrops returns true for all arguments.
-/
import Derived.Test.YtkhcjedlopiicaaBagCmp
import Derived.Test.YtkhcjedlopiicaaBagPlain3
import Derived.Test.YtkhcjedlopiicaaFreeFrame
set_option linter.unusedSimpArgs false
set_option linter.unusedVariables false
set_option maxRecDepth 20000
namespace Go.Proofs.Ytkhcjedlopiicaa
open Go.Free Go.RowKit Go.Proofs
set_option maxHeartbeats 8000000

theorem whNil : WhOkI .nilFunc (fun _ => true) := .inl ⟨rfl, rfl⟩
theorem whOdd : WhOkI (.func (.func 28) #[] #[]) oddB := .inr ⟨_, _, rfl, Try.func28, rfl, rfl, odd_fn⟩
theorem set_vList (f : Nat → Int) (x : Int) : ∀ {i : Nat}, i < 16 → (vList f).set i (vi x) = vList fun j => if j = i then x else f j
  | 0, _ => rfl | 1, _ => rfl | 2, _ => rfl | 3, _ => rfl | 4, _ => rfl | 5, _ => rfl | 6, _ => rfl | 7, _ => rfl | 8, _ => rfl | 9, _ => rfl | 10, _ => rfl | 11, _ => rfl | 12, _ => rfl | 13, _ => rfl | 14, _ => rfl | 15, _ => rfl
  | _ + 16, h => absurd h (by omega)
def upV (v w : Nat → Int) (i : Nat) : Nat → Int := fun j => if j < i then joinV v w j else 0
theorem upV_set (v w : Nat → Int) {i : Nat} (h : i < 16) : (vList (upV v w i)).set i (vi (joinV v w i)) = vList (upV v w (i + 1)) := by
  rw [set_vList _ _ h]
  congr 1
  funext j
  unfold upV
  by_cases h1 : j = i
  · subst h1; rw [if_pos rfl, if_pos (by omega)]
  · rw [if_neg h1]
    by_cases h2 : j < i
    · rw [if_pos h2, if_pos (by omega)]
    · rw [if_neg h2, if_neg (by omega)]
theorem upV_16 (v w : Nat → Int) : vList (upV v w 16) = vList (joinV v w) := rfl
def drD (w0 : World) (l : List (Dt × Int)) (v w : Nat → Int) (p q a b : Nat) (i : Nat) (B : List (Dt × Int)) : Env :=
  [(0, old w0 (itemsF l)), (4, .ex (ptr p)), (5, .ex (ptr q)), (7, .ex (ptr a)), (8, .ex (ptr b)), (33, .ex (vi l.length)), (34, .ex (vi i)), (1000, heap (newB w0) [obj p (vList v), obj q (vList w), bagCI a B, bagCI b B])]
def drE (w0 : World) (l : List (Dt × Int)) (v w : Nat → Int) (p q a b : Nat) (i : Nat) : Env := drD w0 l v w p q a b i (putAll [] (l.take i))
def drF (w0 : World) (L : List (Dt × Int)) (v w : Nat → Int) (p q a b c : Nat) (i : Nat) : Env :=
  [(4, .ex (ptr p)), (5, .ex (ptr q)), (7, .ex (ptr a)), (8, .ex (ptr b)), (10, .ex (ptr c)), (62, .ex (vi i)), (1000, heap (newB w0) [obj p (vList v), obj q (vList w), bagCI a L, bagCI b L, obj c (vList (upV v w i))])]
def drG (K : List (Dt × Int)) (i : Nat) : Env :=
  [(13, row 3 (K.flatMap itI)), (14, row 3 (K.flatMap itI)), (105, .ex (vi K.length)), (106, .ex (vi i))]
theorem lawDrops (l : List (Dt × Int)) (v w : Nat → Int) (hl : l.length ≤ 9223372036854775807) (hok : ∀ x ∈ l, okI x) :
    Spc Try.prog 5 [itemsF l, .ex (aggV v), .ex (aggV w)] fun _ => .ex (.bool true) := by
  refine Spc.intro Try.func5 rfl (Nat.le_of_ble_eq_true rfl) fun w0 => ?_
  have hI := hIb w0
  have hA := Own.below w0
  refine J.heap0 1000 (newB w0) ?_
  repeat (refine J.seq (J.region mixed hI (by kernel_rfl) ?_))
  refine Plan.boxC (key := 1000) rfl rfl rfl (by intro _ e; cases e; decide) rfl rfl hA fun p => ?_
  refine Plan.boxC (key := 1000) rfl rfl rfl (by intro _ e; cases e; decide) rfl rfl hA fun q => ?_
  repeat (first | refine Plan.assign rfl rfl rfl rfl ?_ | refine J.seq (J.seq (J.region mixed hI (by kernel_rfl) ?_)))
  refine Plan.call (B := w0.heap.size) rfl rfl rfl (awakeB_fn) Try.func14 rfl rfl (hBb w0) (by repeat (exact Opnds.nil)) ?_
  repeat (first | refine Plan.move rfl rfl rfl rfl ?_ | refine Plan.un rfl rfl rfl rfl rfl ?_)
  refine Plan.lenRow (m := l.length) rfl rfl rfl rfl (Sub.old fun _ h => h) Try.underlying22 (by rw [flat_len itLI]) (by decide) ?_
  repeat (first | refine Plan.pick rfl rfl rfl rfl rfl ?_ | (refine Plan.ints rfl rfl rfl rfl rfl rfl ?_; (skip)))
  refine J.condD rfl (fun hc => ?_) (fun hc => ?_)
  · repeat (refine J.seq (J.region mixed hI (by kernel_rfl) ?_))
    refine Plan.call (B := w0.heap.size) rfl rfl rfl (awakeB_fn) Try.func14 rfl rfl (hBb w0) (by repeat (exact Opnds.nil)) ?_
    repeat (refine Plan.assign rfl rfl rfl rfl ?_)
    exact J.ret (Nrm.ret1 rfl (fun _ h => h) rfl fun B _ => Sub.refl _)
  have hsm : l.length ≤ 300 := by omega
  repeat (first | refine J.seq (J.region mixed hI (by kernel_rfl) ?_) | refine J.skip ?_)
  refine Plan.callN (key := 1000) rfl rfl rfl (new_fnI) Try.func15 rfl rfl (by intro _ e; cases e; decide) (by repeat (exact Opnds.nil)) rfl hA ?_
  intro a _
  refine Plan.callN (key := 1000) rfl rfl rfl (new_fnI) Try.func15 rfl rfl (by intro _ e; cases e; decide) (by repeat (exact Opnds.nil)) rfl hA ?_
  intro b _
  repeat (first | refine Plan.move rfl rfl rfl rfl ?_ | refine Plan.assign rfl rfl rfl rfl ?_ | refine Plan.pick rfl rfl rfl rfl rfl ?_ | refine Plan.eqlPtr rfl rfl rfl rfl (by kernel_rfl) ?_ | refine J.seq (J.seq (J.region mixed hI (by kernel_rfl) ?_)) | refine J.condF rfl ?_ | refine J.skip ?_)
  refine Plan.lenRow (m := l.length) rfl rfl rfl rfl (Sub.old fun _ h => h) Try.underlying22 (by rw [flat_len itLI]) (by decide) ?_
  repeat (refine Plan.move rfl rfl rfl rfl ?_)
  refine J.block (J.loop (drE w0 l v w p q a b) (fun i => i ≤ l.length) (fun i => l.length - i) 0 (Nat.zero_le _) ?_ ?_)
  · repeat (first | exact Weak.nil | refine Weak.cons rfl (Sub.refl _) ?_)
  intro i hi
  repeat (first | (refine Plan.ints rfl rfl rfl rfl rfl rfl ?_; (skip)) | refine J.seq (J.region mixed hI (by kernel_rfl) ?_))
  refine J.seq (J.condD rfl (fun hc => ?_) (fun hc => ?_))
  · have hlt : i < l.length := by omega
    have hx : l[i]? = some l[i] := List.getElem?_eq_getElem hlt
    have hgd : l.getD i it0I = l[i] := by rw [List.getD_eq_getElem?_getD, hx]; rfl
    have hbl := len_putAll ([] : List (Dt × Int)) (l.take i)
    rw [List.length_take, List.length_nil] at hbl
    repeat (refine J.skip ?_)
    refine J.seq (J.block ?_)
    repeat (first | refine Plan.move rfl rfl rfl rfl ?_ | refine Plan.assign rfl rfl rfl rfl ?_ | refine J.seq (J.region mixed hI (by kernel_rfl) ?_))
    refine Plan.indexAddr itI 3 l it0I rfl rfl rfl rfl (Sub.old fun _ h => h) rfl eltRef itLI (by omega) (by omega) ?_
    rw [Int.toNat_natCast, hgd]
    refine Plan.fieldPtr (us := [vi l[i].1.1, vi l[i].1.2]) rfl rfl rfl rfl (Sub.refl _) Try.underlying30 rfl (by kernel_rfl) rfl ?_
    refine Plan.loadAggP rfl rfl rfl rfl (Sub.refl _) Try.underlying28 rfl (by kernel_rfl) ?_
    repeat (refine Plan.move rfl rfl rfl rfl ?_)
    refine Plan.indexAddr itI 3 l it0I rfl rfl rfl rfl (Sub.old fun _ h => h) rfl eltRef itLI (by omega) (by omega) ?_
    rw [Int.toNat_natCast, hgd]
    refine Plan.fieldPtr (us := [vi l[i].2]) rfl rfl rfl rfl (Sub.refl _) Try.underlying30 rfl (by kernel_rfl) rfl ?_
    refine Plan.load rfl rfl rfl rfl (Sub.refl _) Try.underlying3 rfl ?_
    refine Plan.callC (key := 1000) (q := 2) rfl rfl rfl (put_fnI a (putAll [] (l.take i)) (sorted_putAll sorted_nil _) (by omega) l[i].1 l[i].2) Try.func16 rfl rfl (by intro _ e; cases e; decide) (by repeat (first | exact Opnds.nil | refine Opnds.cons rfl (by exact Sub.refl _) ?_)) rfl hA rfl ?_
    intro _ _
    repeat (first | refine Plan.move rfl rfl rfl rfl ?_ | refine J.region mixed hI (by kernel_rfl) ?_)
    refine Plan.indexAddr itI 3 l it0I rfl rfl rfl rfl (Sub.old fun _ h => h) rfl eltRef itLI (by omega) (by omega) ?_
    rw [Int.toNat_natCast, hgd]
    refine Plan.fieldPtr (us := [vi l[i].1.1, vi l[i].1.2]) rfl rfl rfl rfl (Sub.refl _) Try.underlying30 rfl (by kernel_rfl) rfl ?_
    refine Plan.loadAggP rfl rfl rfl rfl (Sub.refl _) Try.underlying28 rfl (by kernel_rfl) ?_
    repeat (refine Plan.move rfl rfl rfl rfl ?_)
    refine Plan.indexAddr itI 3 l it0I rfl rfl rfl rfl (Sub.old fun _ h => h) rfl eltRef itLI (by omega) (by omega) ?_
    rw [Int.toNat_natCast, hgd]
    refine Plan.fieldPtr (us := [vi l[i].2]) rfl rfl rfl rfl (Sub.refl _) Try.underlying30 rfl (by kernel_rfl) rfl ?_
    refine Plan.load rfl rfl rfl rfl (Sub.refl _) Try.underlying3 rfl ?_
    refine Plan.callC (key := 1000) (q := 3) rfl rfl rfl (put_fnI b (putAll [] (l.take i)) (sorted_putAll sorted_nil _) (by omega) l[i].1 l[i].2) Try.func16 rfl rfl (by intro _ e; cases e; decide) (by repeat (first | exact Opnds.nil | refine Opnds.cons rfl (by exact Sub.refl _) ?_)) rfl hA rfl ?_
    intro _ _
    rw [← putAll_snoc, ← List.take_succ_eq_append_getElem hlt]
    repeat (first | refine Plan.move rfl rfl rfl rfl ?_ | (refine Plan.ints rfl rfl rfl rfl rfl rfl ?_; (refine Plan.int (i64r (by omega)) ?_)) | refine J.region mixed hI (by kernel_rfl) ?_)
    refine Plan.int (y := ((i + 1 : Nat) : Int)) (by omega) ?_
    repeat (fail)
    exact Nrm.next (i + 1) (by omega) (by omega) (by repeat (first | exact Weak.nil | refine Weak.cons rfl (Sub.refl _) ?_))
  have hie : i = l.length := by omega
  subst hie
  refine J.exit ?_
  have hbl := len_putAll ([] : List (Dt × Int)) l
  rw [List.length_nil] at hbl
  have hbs := sorted_putAll (sorted_nil (α := Int)) l
  have hmem : ∀ x ∈ putAll [] l, okI x := fun x hx => by
    rcases mem_putAll sorted_nil (e := x.1) (y := x.2) hx with h | h
    · cases h
    · exact hok _ h
  have hE : drE w0 l v w p q a b l.length = drD w0 l v w p q a b l.length (putAll [] l) := by unfold drE; rw [List.take_length]
  rw [hE]
  obtain ⟨L, hL⟩ : ∃ L, L = putAll [] l := ⟨_, rfl⟩
  rw [← hL] at hbl hbs hmem ⊢
  repeat (refine J.seq (J.region mixed hI (by kernel_rfl) ?_))
  refine Plan.allocC (key := 1000) (z := .agg (vList (upV v w 0)).toArray) rfl rfl rfl (by intro _ e; cases e; decide) (by kernel_rfl) rfl hA fun c => ?_
  repeat (first | refine Plan.move rfl rfl rfl rfl ?_ | refine J.seq (J.seq (J.region mixed hI (by kernel_rfl) ?_)))
  refine J.block (J.loop (drF w0 L v w p q a b c) (fun i => i ≤ 16) (fun i => 16 - i) 0 (Nat.zero_le _) ?_ ?_)
  · repeat (first | exact Weak.nil | refine Weak.cons rfl (Sub.refl _) ?_)
  intro i hi
  repeat (first | (refine Plan.ints rfl rfl rfl rfl rfl rfl ?_; (skip)) | refine J.seq (J.region mixed hI (by kernel_rfl) ?_))
  refine J.seq (J.condD rfl (fun hc => ?_) (fun hc => ?_))
  · have hlt : i < 16 := by omega
    repeat (refine J.skip ?_)
    refine J.seq (J.block ?_)
    repeat (first | refine Plan.move rfl rfl rfl rfl ?_ | refine Plan.assign rfl rfl rfl rfl ?_ | refine J.seq (J.region mixed hI (by kernel_rfl) ?_) | refine J.region mixed hI (by kernel_rfl) ?_)
    refine Plan.indexArr (off := i) (len := 16) (sz := 1) rfl rfl rfl rfl rfl Try.underlying42 (by kernel_rfl) (by omega) (by omega) (by simp) ?_
    refine Plan.loadC (key := 1000) (q := 0) rfl rfl rfl rfl rfl rfl (obj_reads1 (vList_get v hlt)) Try.underlying3 rfl (by decide) ?_
    repeat (refine Plan.move rfl rfl rfl rfl ?_)
    refine Plan.indexArr (off := i) (len := 16) (sz := 1) rfl rfl rfl rfl rfl Try.underlying42 (by kernel_rfl) (by omega) (by omega) (by simp) ?_
    refine Plan.loadC (key := 1000) (q := 1) rfl rfl rfl rfl rfl rfl (obj_reads1 (vList_get w hlt)) Try.underlying3 rfl (by decide) ?_
    refine Plan.max2 rfl rfl rfl rfl rfl ?_
    refine Plan.int (y := joinV v w i) (by unfold joinV; split <;> omega) ?_
    refine Plan.indexArr (off := i) (len := 16) (sz := 1) rfl rfl rfl rfl rfl Try.underlying42 (by kernel_rfl) (by omega) (by omega) (by simp) ?_
    refine Plan.storeC (key := 1000) (q := 4) rfl rfl rfl rfl rfl rfl (by simp [Value.cells, Value.oneCell']) (by kernel_rfl) rfl hA rfl (obj_pat1 (show i < 16 from hlt)) ?_
    rw [upV_set v w hlt]
    repeat (first | refine Plan.move rfl rfl rfl rfl ?_ | (refine Plan.ints rfl rfl rfl rfl rfl rfl ?_; (refine Plan.int (i64r (by omega)) ?_)) | refine J.region mixed hI (by kernel_rfl) ?_)
    refine Plan.int (y := ((i + 1 : Nat) : Int)) (by omega) ?_
    repeat (fail)
    exact Nrm.next (i + 1) (by omega) (by omega) (by repeat (first | exact Weak.nil | refine Weak.cons rfl (Sub.refl _) ?_))
  have hie : i = 16 := by omega
  subst hie
  refine J.exit ?_
  refine J.regroup (key := 1000) [obj p (vList v), obj q (vList w), bagCI a L, bagCI b L, obj c (vList (joinV v w))] rfl (Ent.refl _) ?_
  have hI0 := hI
  have hA0 := hA
  refine J.frame (key := 1000) 1 rfl rfl fun hAq => ?_
  have hI := framed_I (β := q) (cs := vList w) hI0
  have hA := framed_own (β := q) (cs := vList w) hA0
  refine J.seq (J.loose2 [(3, ptr a), (4, aggV w)] [(5, .ex (ptr q)), (7, .ex (ptr a))] mixed hI rfl rfl rfl (by kernel_rfl) (by kernel_rfl) (by kernel_rfl) rfl rfl (fun ⟨_, _, h⟩ => h) (fun _ _ _ _ h => h) (by repeat (first | exact Weak.nil | refine Weak.cons rfl (Sub.refl _) ?_)) ?_ ?_)
  · refine Gives.cons [(5, .ex (ptr q)), (7, .ex (ptr a))] (by kernel_rfl) rfl (by kernel_rfl) (Plan.move rfl rfl rfl rfl (Plan.gives rfl)) ?_
    exact Gives.cons [(5, .ex (ptr q)), (7, .ex (ptr a))] (by kernel_rfl) rfl (by kernel_rfl) (Plan.loadAggI rfl rfl rfl rfl (framed_cell rfl) Try.underlying42 rfl (by kernel_rfl) (Plan.gives rfl)) Gives.nil
  have hk1 : (keepI v (fun _ => true) L).length ≤ L.length := List.length_filter_le _ _
  have hk2 : (keepI w (fun _ => true) (keepI v (fun _ => true) L)).length ≤ (keepI v (fun _ => true) L).length := List.length_filter_le _ _
  have hkj := keep_join v w L
  repeat (refine Plan.move rfl rfl rfl rfl ?_)
  refine Plan.loadAggC (key := 1000) (q := 0) (vs := vList v) rfl rfl rfl rfl rfl rfl obj_whole Try.underlying42 rfl (by kernel_rfl) (by decide) ?_
  refine Plan.callC (key := 1000) (q := 1) rfl rfl rfl (drop_fnI a L (by omega) v .nilFunc _ whNil) Try.func22 rfl rfl (by intro _ e; cases e; decide) (by repeat (first | exact Opnds.nil | refine Opnds.cons rfl (by exact Sub.refl _) ?_)) rfl hA rfl ?_
  intro _ _
  repeat (refine Plan.assign rfl rfl rfl rfl ?_)
  refine Plan.callC (key := 1000) (q := 1) rfl rfl rfl (drop_fnI a (keepI v (fun _ => true) L) (by omega) w .nilFunc _ whNil) Try.func22 rfl rfl (by intro _ e; cases e; decide) (by repeat (first | exact Opnds.nil | refine Opnds.cons rfl (by exact Sub.refl _) ?_)) rfl hA rfl ?_
  intro _ _
  repeat (first | refine Plan.assign rfl rfl rfl rfl ?_ | (refine Plan.ints rfl rfl rfl rfl rfl rfl ?_; (refine Plan.int (i64r (by omega)) ?_)))
  refine Plan.int (y := ((L.length - (keepI w (fun _ => true) (keepI v (fun _ => true) L)).length : Nat) : Int)) (by omega) ?_
  rw [← hkj] at hk2 ⊢
  repeat (fail)
  refine J.unframe (key := 1000) hAq rfl ?_
  have hI := hI0
  have hA := hA0
  repeat (first | refine Plan.move rfl rfl rfl rfl ?_ | refine J.seq (J.seq (J.region mixed hI (by kernel_rfl) ?_)))
  refine Plan.loadAggC (key := 1000) (q := 3) (vs := vList (joinV v w)) rfl rfl rfl rfl rfl rfl obj_whole Try.underlying42 rfl (by kernel_rfl) (by decide) ?_
  refine Plan.callC (key := 1000) (q := 2) rfl rfl rfl (drop_fnI b L (by omega) (joinV v w) .nilFunc _ whNil) Try.func22 rfl rfl (by intro _ e; cases e; decide) (by repeat (first | exact Opnds.nil | refine Opnds.cons rfl (by exact Sub.refl _) ?_)) rfl hA rfl ?_
  intro _ _
  repeat (first | refine Plan.move rfl rfl rfl rfl ?_ | (refine Plan.ints rfl rfl rfl rfl rfl rfl ?_; (skip)))
  refine Plan.boolv (y := false) (by simp) ?_
  repeat (refine Plan.move rfl rfl rfl rfl ?_)
  refine Plan.loadAggC (key := 1000) (q := 3) (vs := vList (joinV v w)) rfl rfl rfl rfl rfl rfl obj_whole Try.underlying42 rfl (by kernel_rfl) (by decide) ?_
  refine Plan.callC (key := 1000) (q := 1) rfl rfl rfl (drop_fnI a (keepI (joinV v w) (fun _ => true) L) (by omega) (joinV v w) .nilFunc _ whNil) Try.func22 rfl rfl (by intro _ e; cases e; decide) (by repeat (first | exact Opnds.nil | refine Opnds.cons rfl (by exact Sub.refl _) ?_)) rfl hA rfl ?_
  intro _ _
  rw [keep_keep]
  repeat (first | refine Plan.move rfl rfl rfl rfl ?_ | refine Plan.pick rfl rfl rfl rfl rfl ?_ | (refine Plan.ints rfl rfl rfl rfl rfl rfl ?_; (skip)))
  refine Plan.boolv (y := false) (by simp) ?_
  repeat (refine Plan.move rfl rfl rfl rfl ?_)
  obtain ⟨K, hK⟩ : ∃ K, K = keepI (joinV v w) (fun _ => true) L := ⟨_, rfl⟩
  have hKm : ∀ x ∈ K, okI x := fun x hx => hmem x (List.mem_filter.1 (show x ∈ L.filter _ from hK ▸ hx)).1
  rw [← hK] at hk2 ⊢
  refine Plan.callR (key := 1000) (B := 0) (q := 1) rfl rfl rfl (len_fnI a K) Try.func20 rfl rfl (fun _ _ => Nat.zero_le _) (by repeat (first | exact Opnds.nil | refine Opnds.cons rfl (by exact Sub.refl _) ?_)) rfl rfl (by decide) ?_
  repeat (refine Plan.move rfl rfl rfl rfl ?_)
  refine Plan.callR (key := 1000) (B := 0) (q := 2) rfl rfl rfl (len_fnI b K) Try.func20 rfl rfl (fun _ _ => Nat.zero_le _) (by repeat (first | exact Opnds.nil | refine Opnds.cons rfl (by exact Sub.refl _) ?_)) rfl rfl (by decide) ?_
  repeat (first | refine Plan.pick rfl rfl rfl rfl rfl ?_ | (refine Plan.ints rfl rfl rfl rfl rfl rfl ?_; (skip)))
  refine Plan.boolv (y := false) (by simp) ?_
  repeat (first | refine Plan.move rfl rfl rfl rfl ?_ | refine J.seq (J.region mixed hI (by kernel_rfl) ?_) | refine J.condF rfl ?_ | refine J.skip ?_)
  refine Plan.callRO (key := 1000) rfl rfl rfl (items_fnI a K (by omega)) (fun _ => rfl) Try.func17 rfl rfl (by intro _ e; cases e; decide) (by repeat (first | exact Opnds.nil | refine Opnds.cons rfl (by exact Sub.refl _) ?_)) rfl hA (Ent.right.trans Ent.left) fun B1 m1 c1 hm1 => ?_
  obtain rfl : m1 = K.length := by rw [flat_len itLI] at hm1; omega
  repeat (refine Plan.move rfl rfl rfl rfl ?_)
  refine Plan.callRO (key := 1000) rfl rfl rfl (items_fnI b K (by omega)) (fun _ => rfl) Try.func17 rfl rfl (by intro _ e; cases e; decide) (by repeat (first | exact Opnds.nil | refine Opnds.cons rfl (by exact Sub.refl _) ?_)) rfl hA (Ent.right.trans (Ent.right.trans Ent.left)) fun B2 m2 c2 hm2 => ?_
  obtain rfl : m2 = K.length := by rw [flat_len itLI] at hm2; omega
  repeat (first | refine Plan.move rfl rfl rfl rfl ?_ | refine Plan.assign rfl rfl rfl rfl ?_ | refine J.seq (J.seq (J.region mixed hI (by kernel_rfl) ?_)))
  refine Plan.lenE rfl rfl rfl rfl Try.underlying31 ?_
  repeat (refine Plan.move rfl rfl rfl rfl ?_)
  refine J.seeC (t := 13) (key := 1000) (q := 5) rfl rfl rfl (fun w F h => row_rowH h) ?_
  refine J.seeC (t := 14) (key := 1000) (q := 6) rfl rfl rfl (fun w F h => row_rowH h) ?_
  refine J.block (J.loop (drG K) (fun i => i ≤ K.length) (fun i => K.length - i) 0 (Nat.zero_le _) ?_ ?_)
  · repeat (first | exact Weak.nil | refine Weak.cons rfl (Sub.refl _) ?_)
  intro i hi
  repeat (first | (refine Plan.ints rfl rfl rfl rfl rfl rfl ?_; (skip)) | refine J.seq (J.region mixed hI (by kernel_rfl) ?_))
  refine J.seq (J.condD rfl (fun hc => ?_) (fun hc => ?_))
  · have hlt : i < K.length := by omega
    have hx : K[i]? = some K[i] := List.getElem?_eq_getElem hlt
    have hgd : K.getD i it0I = K[i] := by rw [List.getD_eq_getElem?_getD, hx]; rfl
    have hki := hKm _ (List.getElem_mem hlt)
    repeat (refine J.skip ?_)
    refine J.seq (J.block ?_)
    repeat (first | refine Plan.move rfl rfl rfl rfl ?_ | refine Plan.assign rfl rfl rfl rfl ?_ | refine J.seq (J.region mixed hI (by kernel_rfl) ?_))
    refine Plan.indexAddr itI 3 K it0I rfl rfl rfl rfl (Sub.refl _) rfl eltItI itLI (by omega) (by omega) ?_
    rw [Int.toNat_natCast, hgd]
    refine Plan.loadAggP rfl rfl rfl rfl (Sub.refl _) Try.underlying33 rfl (by kernel_rfl) ?_
    repeat (refine Plan.move rfl rfl rfl rfl ?_)
    refine Plan.indexAddr itI 3 K it0I rfl rfl rfl rfl (Sub.refl _) rfl eltItI itLI (by omega) (by omega) ?_
    rw [Int.toNat_natCast, hgd]
    refine Plan.loadAggP rfl rfl rfl rfl (Sub.refl _) Try.underlying33 rfl (by kernel_rfl) ?_
    refine Plan.neqIt K[i] K[i] rfl rfl rfl rfl rfl hki hki ?_
    refine Plan.boolv (y := false) (by simp) ?_
    repeat (first | refine Plan.move rfl rfl rfl rfl ?_ | (refine Plan.ints rfl rfl rfl rfl rfl rfl ?_; (refine Plan.int (i64r (by omega)) ?_)) | refine J.region mixed hI (by kernel_rfl) ?_ | refine J.condF rfl ?_ | refine J.skip ?_)
    refine Plan.int (y := ((i + 1 : Nat) : Int)) (by omega) ?_
    repeat (fail)
    exact Nrm.next (i + 1) (by omega) (by omega) (by repeat (first | exact Weak.nil | refine Weak.cons rfl (Sub.refl _) ?_))
  refine J.exit ?_
  repeat (first | refine Plan.move rfl rfl rfl rfl ?_ | refine J.seq (J.region mixed hI (by kernel_rfl) ?_))
  refine Plan.lenRow (m := K.length) rfl rfl rfl rfl (Sub.refl _) Try.underlying31 (by rw [flat_len itLI]) (by decide) ?_
  repeat (refine Plan.move rfl rfl rfl rfl ?_)
  refine Plan.lenRow (m := K.length) rfl rfl rfl rfl (Sub.refl _) Try.underlying31 (by rw [flat_len itLI]) (by decide) ?_
  repeat (first | refine Plan.assign rfl rfl rfl rfl ?_ | (refine Plan.ints rfl rfl rfl rfl rfl rfl ?_; (skip)))
  refine Plan.boolv (y := true) (by simp) ?_
  repeat (fail)
  exact J.ret (Nrm.ret1 rfl (fun _ h => h) rfl fun B _ => Sub.refl _)
theorem vv_of {c : List Value} (h : CellsOk kdsVV c) : ∃ v : Nat → Int, c = vList v := by
  obtain ⟨_, _, rfl, ⟨d0, rfl, g0⟩, _, _, rfl, ⟨d1, rfl, g1⟩, _, _, rfl, ⟨d2, rfl, g2⟩, _, _, rfl, ⟨d3, rfl, g3⟩, _, _, rfl, ⟨d4, rfl, g4⟩, _, _, rfl, ⟨d5, rfl, g5⟩, _, _, rfl, ⟨d6, rfl, g6⟩, _, _, rfl, ⟨d7, rfl, g7⟩,
    _, _, rfl, ⟨d8, rfl, g8⟩, _, _, rfl, ⟨d9, rfl, g9⟩, _, _, rfl, ⟨d10, rfl, g10⟩, _, _, rfl, ⟨d11, rfl, g11⟩, _, _, rfl, ⟨d12, rfl, g12⟩, _, _, rfl, ⟨d13, rfl, g13⟩, _, _, rfl, ⟨d14, rfl, g14⟩, _, _, rfl, ⟨d15, rfl, g15⟩, rfl⟩ := h
  exact ⟨fun i => [d0, d1, d2, d3, d4, d5, d6, d7, d8, d9, d10, d11, d12, d13, d14, d15].getD i 0, rfl⟩
theorem lawDropsC (ls : List (List Value)) (a b : List Value) (hl : ls.length ≤ 9223372036854775807) (hc : ∀ c ∈ ls, CellsOk kdsItem c) (ha : CellsOk kdsVV a) (hb : CellsOk kdsVV b) :
    Spc Try.prog 5 [row 3 ls.flatten, .ex (.agg a.toArray), .ex (.agg b.toArray)] fun _ => .ex (.bool true) := by
  obtain ⟨l, h1, h2, h3⟩ := items_of ls hc
  obtain ⟨v, rfl⟩ := vv_of ha
  obtain ⟨w, rfl⟩ := vv_of hb
  rw [h2]
  exact lawDrops l v w (by omega) h3
end Go.Proofs.Ytkhcjedlopiicaa
