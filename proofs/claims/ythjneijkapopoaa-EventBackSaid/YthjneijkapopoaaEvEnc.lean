/-
  Events: the bytes of an event: the program.
-/
import Derived.Test.YthjneijkapopoaaEvRightFn
import Derived.Test.YthjneijkapopoaaFreeTight
import Derived.Test.YthjneijkapopoaaVlqRef
set_option linter.unusedSimpArgs false
set_option linter.unusedVariables false
set_option maxRecDepth 20000
namespace Go.Proofs.Ythjneijkapopoaa
open Go.Free Go.RowKit Go.Proofs
set_option maxHeartbeats 4000000

def numI (x : Int) : List UInt8 := num x.toNat
def txt (s : List UInt8) : List UInt8 := num s.length ++ s
def encNs (e : EvV) : List Int := [e.r, e.n, e.time, e.d 0, e.d 1, e.d 2, e.d 3, e.d 4, e.d 5, e.d 6, e.d 7, e.d 8, e.d 9, e.d 10, e.d 11, e.d 12, e.d 13, e.d 14, e.d 15]
def nums (l : List Int) : List UInt8 := l.flatMap numI
def encB1 (e : EvV) : List UInt8 := nums (encNs e) ++ numI e.kind ++ txt e.key
def encB2 (e : EvV) : List UInt8 := if fieldP e.kind then encB1 e ++ txt e.field else encB1 e
def encB3 (e : EvV) : List UInt8 := if valueP e.kind then encB2 e ++ txt e.value else encB2 e
def encB4 (e : EvV) : List UInt8 := if numP e.kind then encB3 e ++ num (zig e.num) else encB3 e
def encB (e : EvV) : List UInt8 := if refP e.kind then encB4 e ++ numI e.rr ++ numI e.rn else encB4 e
def small (x : Int) : Prop := 0 ≤ x ∧ x < 18446744073709551616
theorem numI_le {x : Int} (h : small x) : (numI x).length ≤ 10 := num_le (by have := h.1; have := h.2; omega)
theorem nums_le : ∀ {l : List Int}, (∀ x ∈ l, small x) → (nums l).length ≤ 10 * l.length
  | [], _ => by simp [nums]
  | x :: l, h => by
    have h1 := numI_le (h x List.mem_cons_self)
    have h2 := nums_le (l := l) fun y hy => h y (List.mem_cons_of_mem _ hy)
    simp only [nums, List.flatMap_cons, List.length_append, List.length_cons] at h2 ⊢
    omega
theorem encNs_small {e : EvV} (h : rightP e) : ∀ x ∈ encNs e, small x := by
  obtain ⟨⟨h1, h2, h3, h4⟩, h5, h6, h7, -⟩ := h
  intro x hx
  have hd : ∀ i, i < 16 → small (e.d i) := fun i hi => by have := h7 i hi; unfold small; omega
  simp only [encNs, List.mem_cons, List.not_mem_nil, or_false] at hx
  rcases hx with rfl | rfl | rfl | rfl | rfl | rfl | rfl | rfl | rfl | rfl | rfl | rfl | rfl | rfl | rfl | rfl | rfl | rfl | rfl
  · unfold small; omega
  · unfold small; omega
  · unfold small; omega
  all_goals exact hd _ (by decide)
theorem nums_snoc {l : List Int} {i : Nat} (h : i < l.length) : nums (l.take (i + 1)) = nums (l.take i) ++ numI (l.getD i 0) := by
  have e : l.take (i + 1) = l.take i ++ [l.getD i 0] := by
    rw [List.take_add_one, List.getElem?_eq_getElem h, List.getD_eq_getElem?_getD, List.getElem?_eq_getElem h]; rfl
  rw [e]
  simp [nums]
structure EncOk (e : EvV) : Prop where
  kind : 1 ≤ e.kind ∧ e.kind ≤ 11
  key : e.key.length ≤ 64
  field : e.field.length ≤ 64
  value : e.value.length ≤ 64
  num : -9223372036854775808 ≤ e.num ∧ e.num ≤ 9223372036854775807
  ref : refP e.kind → small e.rr ∧ small e.rn
theorem enc_okE {e : EvV} (h : rightP e) : EncOk e := by
  obtain ⟨-, -, -, h7, -, ⟨h8, -, h9, h10, h11, h12, h13, -⟩, h14⟩ := h
  refine ⟨h8, h9, h10, h11, by omega, fun _ => ?_⟩
  rcases h14 with ⟨⟨h1, h2, h3, h4⟩, _⟩ | ⟨_, h1, h2⟩
  · unfold small; omega
  · unfold small; omega
theorem txt_le {s : List UInt8} (h : s.length ≤ 64) : (txt s).length ≤ 74 := by
  have := num_le (u := s.length) (by omega)
  unfold txt; rw [List.length_append]; omega
theorem encB1_le {e : EvV} (h : rightP e) : (encB1 e).length ≤ 300 := by
  have h1 := nums_le (encNs_small h)
  have h2 : (encNs e).length = 19 := rfl
  have hk := (enc_okE h).kind
  have h3 := numI_le (x := e.kind) (by unfold small; omega)
  have h4 := txt_le (enc_okE h).key
  unfold encB1; simp only [List.length_append]; omega
theorem encB2_le {e : EvV} (h : rightP e) : (encB2 e).length ≤ 400 := by
  have h1 := encB1_le h
  have h4 := txt_le (enc_okE h).field
  unfold encB2; split <;> (try simp only [List.length_append]) <;> omega
theorem encB3_le {e : EvV} (h : rightP e) : (encB3 e).length ≤ 500 := by
  have h1 := encB2_le h
  have h4 := txt_le (enc_okE h).value
  unfold encB3; split <;> (try simp only [List.length_append]) <;> omega
theorem encB4_le {e : EvV} (h : rightP e) : (encB4 e).length ≤ 600 := by
  have h1 := encB3_le h
  have h4 := num_le (zig_lt (enc_okE h).num)
  unfold encB4; split <;> (try simp only [List.length_append]) <;> omega
theorem encB_le {e : EvV} (h : rightP e) : (encB e).length ≤ 700 := by
  have h1 := encB4_le h
  unfold encB
  by_cases hr : refP e.kind
  · have h2 := numI_le ((enc_okE h).ref hr).1
    have h3 := numI_le ((enc_okE h).ref hr).2
    rw [if_pos hr]; simp only [List.length_append]; omega
  · rw [if_neg hr]; omega

theorem encode_no (e : EvV) (h : e.okV) (hr : ¬ rightP e) : Spc Try.prog 19 [.ex (aggE e)] fun B => .tup [ownB B [], .ex (vi 1)] := by
  refine Spc.intro Try.func19 rfl (Nat.le_of_ble_eq_true rfl) fun w0 => ?_
  have hI := hIb w0
  have hA := Own.below w0
  have k := right_fn e h
  rw [decide_eq_false hr] at k
  refine J.heap0 1000 (newB w0) ?_
  repeat (refine J.seq (J.region mixed hI (by kernel_rfl) ?_))
  refine Plan.boxC (key := 1000) rfl rfl rfl (by intro _ e; cases e; decide) rfl rfl hA fun β => ?_
  repeat (first | refine Plan.assign rfl rfl rfl rfl ?_ | refine J.seq (J.seq (J.region mixed hI (by kernel_rfl) ?_)))
  refine Plan.loadAggC (key := 1000) (q := 0) (vs := e.enc) rfl rfl rfl rfl rfl rfl obj_whole Try.underlying31 rfl (by rw [encE]; kernel_rfl) (by decide) ?_
  refine Plan.call (B := w0.heap.size) rfl rfl rfl (k) Try.func22 rfl rfl (hBb w0) (by repeat (first | exact Opnds.nil | refine Opnds.cons rfl (by exact Sub.refl _) ?_)) ?_
  repeat (first | refine Plan.assign rfl rfl rfl rfl ?_ | refine Plan.un rfl rfl rfl rfl rfl ?_ | refine J.seq (J.region mixed hI (by kernel_rfl) ?_) | refine J.condT rfl ?_)
  exact J.ret (Nrm.ret2 rfl (fun _ h => h) fun B hB => ⟨_, rfl, Ress.cons rfl (Sub.nilOwn (fun _ h => Nat.le_trans hB h.size)) (Ress.cons rfl (Sub.refl _) Ress.nil)⟩)
def encEv (w0 : World) (B β : Nat) (e : EvV) (i : Nat) : Env :=
  [(1, .ex (ptr β)), (4, ownB B (nums ((encNs e).take i))), (24, own B 3 1 (is (encNs e))), (25, .ex (vi 19)), (26, .ex (vi i)), (1000, heap (fun b => newB w0 b ∧ b < B) [obj β e.enc])]
def encM (w0 : World) (β γ δ : Nat) (e : EvV) (B1 : Option Addr) (m1 c1 : Nat) (b : List UInt8) : Env :=
  [(1, .ex (ptr β)), (4, ownB w0.heap.size b), (7, .ex (ptr γ)), (8, .ex (ptr δ)), (1000, heap (newB w0) [obj β e.enc, rowC 5 1 B1 m1 c1 (bs (nums (encNs e))), obj γ e.op, obj δ (partsV e.kind)])]
theorem u64in {x : Int} (h : small x) : IntKind.u64.wrap x = (x.toNat : Int) := by
  have h1 := h.1
  have h2 := h.2
  rw [IntKind.wrap_u64]; omega
theorem encode_yes (e : EvV) (h : e.okV) (hr : rightP e) : Spc Try.prog 19 [.ex (aggE e)] fun B => .tup [ownB B (encB e), .ex (vi 0)] := by
  refine Spc.intro Try.func19 rfl (Nat.le_of_ble_eq_true rfl) fun w0 => ?_
  have hI := hIb w0
  have hA := Own.below w0
  have k := right_fn e h
  rw [decide_eq_true hr] at k
  have hok := enc_okE hr
  have hsm := encNs_small hr
  refine J.heap0 1000 (newB w0) ?_
  refine J.seq (J.region mixed hI (by kernel_rfl) ?_)
  refine Plan.boxC (key := 1000) rfl rfl rfl (by intro _ e; cases e; decide) rfl rfl hA fun β => ?_
  repeat (refine Plan.assign rfl rfl rfl rfl ?_)
  refine J.fresh (key := 1000) rfl hA fun B hBA => ?_
  have hI := hFresh (B := B) (hIb w0)
  repeat (refine J.seq (J.seq (J.region mixed hI (by kernel_rfl) ?_)))
  refine Plan.loadAggC (key := 1000) (q := 0) (vs := e.enc) rfl rfl rfl rfl rfl rfl obj_whole Try.underlying31 rfl (by rw [encE]; kernel_rfl) (by decide) ?_
  refine Plan.call (B := 0) rfl rfl rfl (k) Try.func22 rfl rfl (fun _ _ => Nat.zero_le _) (by repeat (first | exact Opnds.nil | refine Opnds.cons rfl (by exact Sub.refl _) ?_)) ?_
  repeat (first | refine Plan.assign rfl rfl rfl rfl ?_ | refine Plan.un rfl rfl rfl rfl rfl ?_ | refine Plan.fieldC rfl rfl rfl rfl (by first | exact Try.underlying31 | exact Try.underlying25) rfl (by kernel_rfl) (by first | exact (rfl : _ = 0) | exact (rfl : _ = 1) | exact (rfl : _ = 2)) ?_ | refine Plan.loadC (key := 1000) (q := 0) rfl rfl rfl rfl rfl rfl (obj_reads1 rfl) (by exact Try.underlying3) (by rfl) (by decide) ?_ | refine J.seq (J.region mixed hI (by kernel_rfl) ?_) | refine J.seq (J.seq (J.region mixed hI (by kernel_rfl) ?_)) | refine J.condF rfl ?_ | refine J.skip ?_)
  refine Plan.litTight (B := B) (m := 3) rfl rfl rfl eltI rfl (fun _ h => h.2) rfl (by simp [Value.cells]) (by decide) ?_
  repeat (refine Plan.fieldC rfl rfl rfl rfl (by exact Try.underlying31) rfl (by kernel_rfl) (by exact (rfl : _ = 3)) ?_)
  refine Plan.sliceArr (len := 16) (sz := 1) rfl rfl rfl rfl Try.underlying27 (by kernel_rfl) ?_
  refine Plan.appendTight (key := 1000) (q := 0) (news := vList e.d) rfl rfl rfl rfl (Sub.refl _) rfl eltI rfl rfl (obj_reads rfl) rfl (by decide) (Nat.le_refl _) (by decide) (by decide) (by simp [vList, Value.oneCell']) (by simp [vList, flat, Value.cells]) ?_
  refine Plan.lenRow (m := 19) rfl rfl rfl rfl Sub.own Try.underlying57 (by simp [vList, flat, Value.cells]) (by decide) ?_
  repeat (refine Plan.move rfl rfl rfl rfl ?_)
  refine J.block (J.loop (encEv w0 B β e) (fun i => i ≤ 19) (fun i => 19 - i) 0 (Nat.zero_le _) ?_ ?_)
  · exact Weak.cons rfl (Sub.refl _) (Weak.cons rfl (Sub.nilOwn (fun _ h => h.2)) (Weak.cons rfl (Sub.of_eq rfl) (Weak.cons rfl (Sub.refl _) (Weak.cons rfl (Sub.refl _) (Weak.cons rfl (Sub.refl _) Weak.nil)))))
  intro i hi
  repeat (first | (refine Plan.ints rfl rfl rfl rfl rfl rfl ?_; (skip)) | refine J.seq (J.region mixed hI (by kernel_rfl) ?_))
  refine J.seq (J.condD rfl (fun hlt => ?_) (fun hlt => ?_))
  · have hlt' : i < (encNs e).length := by
      show i < 19
      omega
    have hsi : small ((encNs e).getD i 0) := by
      rw [List.getD_eq_getElem?_getD, List.getElem?_eq_getElem hlt']; exact hsm _ (List.getElem_mem hlt')
    have hsi' := hsi.2
    have hnl := nums_le (l := (encNs e).take i) fun x hx => hsm x (List.mem_of_mem_take hx)
    rw [List.length_take] at hnl
    repeat (refine J.skip ?_)
    refine J.seq (J.block ?_)
    repeat (refine J.seq (J.region mixed hI (by kernel_rfl) ?_))
    refine Plan.indexAddr (fun x => [vi x]) 1 (encNs e) 0 rfl rfl rfl rfl Sub.own rfl eltI (fun _ => rfl) (by omega) (by omega) ?_
    rw [Int.toNat_natCast]
    refine Plan.load rfl rfl rfl rfl (Sub.refl _) Try.underlying3 rfl ?_
    repeat (refine Plan.assign rfl rfl rfl rfl ?_)
    refine J.region mixed hI (by kernel_rfl) ?_
    refine Plan.move rfl rfl rfl rfl ?_
    refine Plan.move rfl rfl rfl rfl ?_
    refine Plan.convInt rfl rfl rfl rfl (by exact Try.underlying3) (by exact Try.underlying59) ?_
    refine Plan.int (u64in hsi) ?_
    refine Plan.call (B := B) rfl rfl rfl (vlq_Put (nums ((encNs e).take i)) ((encNs e).getD i 0).toNat (by omega) (by omega)) Try.func31 rfl rfl (fun _ h => h.2) (by repeat (first | exact Opnds.nil | refine Opnds.cons rfl (by first | exact Sub.refl _ | exact Sub.own) ?_)) ?_
    repeat (first | refine Plan.move rfl rfl rfl rfl ?_ | refine Plan.assign rfl rfl rfl rfl ?_ | (refine Plan.ints rfl rfl rfl rfl rfl rfl ?_; (refine Plan.int (i64r (by omega)) ?_)) | refine J.region mixed hI (by kernel_rfl) ?_)
    refine Plan.int (y := ((i + 1 : Nat) : Int)) (by omega) ?_
    repeat (fail)
    refine Nrm.next (i + 1) (by omega) (by omega) ?_
    exact Weak.cons rfl (Sub.refl _) (Weak.cons rfl (Sub.of_eq (by rw [nums_snoc hlt']; rfl)) (Weak.cons rfl (Sub.refl _) (Weak.cons rfl (Sub.refl _) (Weak.cons rfl (Sub.refl _) (Weak.cons rfl (Sub.refl _) Weak.nil)))))
  have hie : i = 19 := by omega
  subst hie
  refine J.exit ?_
  refine J.takeC (t := 4) (key := 1000) rfl (Sub.refl _) rfl hBA fun B1 m1 c1 hm1 => ?_
  refine J.idle (I' := fun w => Below w0.heap.size w0 w) (fun _ h => h.1) ?_
  have hI := hIb w0
  repeat (first | refine Plan.fieldC rfl rfl rfl rfl (by exact Try.underlying31) rfl (by kernel_rfl) (by exact (rfl : _ = 19)) ?_ | refine J.seq (J.region mixed hI (by kernel_rfl) ?_))
  refine Plan.loadAggC (key := 1000) (q := 0) (vs := e.op) rfl rfl rfl rfl rfl rfl (obj_reads rfl) Try.underlying29 rfl (by kernel_rfl) (by decide) ?_
  refine Plan.allocC (key := 1000) (z := .agg #[vi 0, str [], str [], str [], vi 0, vi 0, vi 0]) rfl rfl rfl (by intro _ e; cases e; decide) (by kernel_rfl) rfl hA fun γ => ?_
  refine Plan.storeC (key := 1000) (q := 2) (off := 0) rfl rfl rfl rfl rfl rfl (by simp [Value.cells, Value.oneCell', EvV.op, str]) (by show _ = some e.op.toArray.size; kernel_rfl) rfl hA rfl (obj_pat (Nat.le_of_ble_eq_true rfl)) ?_
  repeat (first | refine Plan.fieldC rfl rfl rfl rfl (by first | exact Try.underlying31 | exact Try.underlying29) rfl (by kernel_rfl) (by exact (rfl : _ = 0)) ?_ | refine Plan.loadC (key := 1000) (q := 2) rfl rfl rfl rfl rfl rfl (obj_reads1 rfl) (by exact Try.underlying3) (by rfl) (by decide) ?_ | refine J.seq (J.region mixed hI (by kernel_rfl) ?_))
  refine Plan.call (B := w0.heap.size) rfl rfl rfl (uses_fn e.kind) Try.func32 rfl rfl (hBb w0) (by repeat (first | exact Opnds.nil | refine Opnds.cons rfl (by exact Sub.refl _) ?_)) ?_
  repeat (first | refine Plan.move rfl rfl rfl rfl ?_ | refine Plan.extract rfl rfl rfl rfl rfl ?_)
  refine Plan.allocC (key := 1000) (z := .agg #[.bool false, .bool false, .bool false, .bool false]) rfl rfl rfl (by intro _ e; cases e; decide) (by kernel_rfl) rfl hA fun δ => ?_
  refine Plan.storeC (key := 1000) (q := 3) (off := 0) rfl rfl rfl rfl rfl rfl (by simp [Value.cells, Value.oneCell', partsV]) (by show _ = some (partsV e.kind).toArray.size; kernel_rfl) rfl hA rfl (obj_pat (Nat.le_of_ble_eq_true rfl)) ?_
  repeat (refine Plan.assign rfl rfl rfl rfl ?_)
  refine J.seeC (t := 4) (key := 1000) (q := 1) (xs := bs (nums (encNs e))) rfl rfl rfl (fun w F hh => row_rowH hh) ?_
  have l0 := nums_le hsm
  have l0' : (encNs e).length = 19 := rfl
  have lk := hok.kind
  have sk : small e.kind := by unfold small; omega
  have l1 := numI_le sk
  have s1 := hok.key
  have s2 := hok.field
  have s3 := hok.value
  have e1 := encB1_le hr
  have e2 := encB2_le hr
  have e3 := encB3_le hr
  have e4 := encB4_le hr
  refine J.seqMid (σ := Unit) (fun _ => encM w0 β γ δ e B1 m1 c1 (encB1 e)) (fun _ => True) ?_ fun _ _ => ?_
  · refine J.region mixed hI (by kernel_rfl) ?_
    repeat (first | refine Plan.move rfl rfl rfl rfl ?_ | (refine Plan.convInt rfl rfl rfl rfl (by exact Try.underlying3) (by first | exact Try.underlying3 | exact Try.underlying59) ?_; (refine Plan.int (u64r (by omega)) ?_)) | refine Plan.fieldC rfl rfl rfl rfl (by first | exact Try.underlying31 | exact Try.underlying29) rfl (by kernel_rfl) (by exact (rfl : _ = 0)) ?_ | refine Plan.loadC (key := 1000) (q := 2) rfl rfl rfl rfl rfl rfl (obj_reads1 rfl) (by exact Try.underlying3) (by rfl) (by decide) ?_)
    refine Plan.int (y := (e.kind.toNat : Int)) (by omega) ?_
    refine Plan.call (B := w0.heap.size) rfl rfl rfl (vlq_Put (nums (encNs e)) e.kind.toNat (by omega) (by omega)) Try.func31 rfl rfl (hBb w0) (by repeat (first | exact Opnds.nil | refine Opnds.cons rfl (by exact Sub.refl _) ?_)) ?_
    repeat (first | refine Plan.fieldC rfl rfl rfl rfl (by first | exact Try.underlying31 | exact Try.underlying29) rfl (by kernel_rfl) (by exact (rfl : _ = 1)) ?_ | refine Plan.loadC (key := 1000) (q := 2) rfl rfl rfl rfl rfl rfl (obj_reads1 rfl) (by first | exact Try.underlying3 | exact Try.underlying9) (by rfl) (by decide) ?_)
    refine Plan.call (B := w0.heap.size) rfl rfl rfl (vlq_PutText (nums (encNs e) ++ num e.kind.toNat) e.key (by rw [List.length_append]; unfold numI at l1; omega)) Try.func33 rfl rfl (hBb w0) (by repeat (first | exact Opnds.nil | refine Opnds.cons rfl (by first | exact Sub.refl _ | exact Sub.own) ?_)) ?_
    repeat (refine Plan.assign rfl rfl rfl rfl ?_)
    exact Nrm.mid () trivial (Weak.cons rfl (Sub.refl _) (Weak.cons rfl (Sub.of_eq (rfl)) (Weak.cons rfl (Sub.refl _) (Weak.cons rfl (Sub.refl _) (Weak.cons rfl (Sub.refl _) Weak.nil)))))
  refine J.seqMid (σ := Unit) (fun _ => encM w0 β γ δ e B1 m1 c1 (encB2 e)) (fun _ => True) ?_ fun _ _ => ?_
  · repeat (first | refine Plan.fieldC rfl rfl rfl rfl (by first | exact Try.underlying31 | exact Try.underlying61) rfl (by kernel_rfl) (by exact (rfl : _ = 0)) ?_ | refine J.seq (J.region mixed hI (by kernel_rfl) ?_))
    refine Plan.loadC (key := 1000) (q := 3) rfl rfl rfl rfl rfl rfl (obj_reads1 rfl) Try.underlying4 rfl (by decide) ?_
    refine J.condD rfl (fun hf => ?_) (fun hf => ?_)
    · have hy : encB2 e = _ := if_pos hf
      repeat (first | refine Plan.move rfl rfl rfl rfl ?_ | refine Plan.fieldC rfl rfl rfl rfl (by first | exact Try.underlying31 | exact Try.underlying29) rfl (by kernel_rfl) (by exact (rfl : _ = 2)) ?_ | refine Plan.loadC (key := 1000) (q := 2) rfl rfl rfl rfl rfl rfl (obj_reads1 rfl) (by first | exact Try.underlying3 | exact Try.underlying9) (by rfl) (by decide) ?_ | refine J.region mixed hI (by kernel_rfl) ?_)
      refine Plan.call (B := w0.heap.size) rfl rfl rfl (vlq_PutText (encB1 e) e.field (by omega)) Try.func33 rfl rfl (hBb w0) (by repeat (first | exact Opnds.nil | refine Opnds.cons rfl (by first | exact Sub.refl _ | exact Sub.own) ?_)) ?_
      repeat (refine Plan.assign rfl rfl rfl rfl ?_)
      exact Nrm.mid () trivial (Weak.cons rfl (Sub.refl _) (Weak.cons rfl (Sub.of_eq (by rw [hy] <;> rfl)) (Weak.cons rfl (Sub.refl _) (Weak.cons rfl (Sub.refl _) (Weak.cons rfl (Sub.refl _) Weak.nil)))))
    · have hn : encB2 e = _ := if_neg hf
      refine J.skip ?_
      exact Nrm.mid () trivial (Weak.cons rfl (Sub.refl _) (Weak.cons rfl (Sub.of_eq (by rw [hn])) (Weak.cons rfl (Sub.refl _) (Weak.cons rfl (Sub.refl _) (Weak.cons rfl (Sub.refl _) Weak.nil)))))
  refine J.seqMid (σ := Unit) (fun _ => encM w0 β γ δ e B1 m1 c1 (encB3 e)) (fun _ => True) ?_ fun _ _ => ?_
  · repeat (first | refine Plan.fieldC rfl rfl rfl rfl (by first | exact Try.underlying31 | exact Try.underlying61) rfl (by kernel_rfl) (by exact (rfl : _ = 1)) ?_ | refine J.seq (J.region mixed hI (by kernel_rfl) ?_))
    refine Plan.loadC (key := 1000) (q := 3) rfl rfl rfl rfl rfl rfl (obj_reads1 rfl) Try.underlying4 rfl (by decide) ?_
    refine J.condD rfl (fun hf => ?_) (fun hf => ?_)
    · have hy : encB3 e = _ := if_pos hf
      repeat (first | refine Plan.move rfl rfl rfl rfl ?_ | refine Plan.fieldC rfl rfl rfl rfl (by first | exact Try.underlying31 | exact Try.underlying29) rfl (by kernel_rfl) (by exact (rfl : _ = 3)) ?_ | refine Plan.loadC (key := 1000) (q := 2) rfl rfl rfl rfl rfl rfl (obj_reads1 rfl) (by first | exact Try.underlying3 | exact Try.underlying9) (by rfl) (by decide) ?_ | refine J.region mixed hI (by kernel_rfl) ?_)
      refine Plan.call (B := w0.heap.size) rfl rfl rfl (vlq_PutText (encB2 e) e.value (by omega)) Try.func33 rfl rfl (hBb w0) (by repeat (first | exact Opnds.nil | refine Opnds.cons rfl (by first | exact Sub.refl _ | exact Sub.own) ?_)) ?_
      repeat (refine Plan.assign rfl rfl rfl rfl ?_)
      exact Nrm.mid () trivial (Weak.cons rfl (Sub.refl _) (Weak.cons rfl (Sub.of_eq (by rw [hy] <;> rfl)) (Weak.cons rfl (Sub.refl _) (Weak.cons rfl (Sub.refl _) (Weak.cons rfl (Sub.refl _) Weak.nil)))))
    · have hn : encB3 e = _ := if_neg hf
      refine J.skip ?_
      exact Nrm.mid () trivial (Weak.cons rfl (Sub.refl _) (Weak.cons rfl (Sub.of_eq (by rw [hn])) (Weak.cons rfl (Sub.refl _) (Weak.cons rfl (Sub.refl _) (Weak.cons rfl (Sub.refl _) Weak.nil)))))
  refine J.seqMid (σ := Unit) (fun _ => encM w0 β γ δ e B1 m1 c1 (encB4 e)) (fun _ => True) ?_ fun _ _ => ?_
  · repeat (first | refine Plan.fieldC rfl rfl rfl rfl (by first | exact Try.underlying31 | exact Try.underlying61) rfl (by kernel_rfl) (by exact (rfl : _ = 2)) ?_ | refine J.seq (J.region mixed hI (by kernel_rfl) ?_))
    refine Plan.loadC (key := 1000) (q := 3) rfl rfl rfl rfl rfl rfl (obj_reads1 rfl) Try.underlying4 rfl (by decide) ?_
    refine J.condD rfl (fun hf => ?_) (fun hf => ?_)
    · have hy : encB4 e = _ := if_pos hf
      repeat (first | refine Plan.move rfl rfl rfl rfl ?_ | refine Plan.fieldC rfl rfl rfl rfl (by first | exact Try.underlying31 | exact Try.underlying29) rfl (by kernel_rfl) (by exact (rfl : _ = 4)) ?_ | refine Plan.loadC (key := 1000) (q := 2) rfl rfl rfl rfl rfl rfl (obj_reads1 rfl) (by exact Try.underlying3) (by rfl) (by decide) ?_ | refine J.region mixed hI (by kernel_rfl) ?_)
      refine Plan.call (B := w0.heap.size) rfl rfl rfl (vlq_PutInt (encB3 e) e.num hok.num (by omega)) Try.func34 rfl rfl (hBb w0) (by repeat (first | exact Opnds.nil | refine Opnds.cons rfl (by first | exact Sub.refl _ | exact Sub.own) ?_)) ?_
      repeat (refine Plan.assign rfl rfl rfl rfl ?_)
      exact Nrm.mid () trivial (Weak.cons rfl (Sub.refl _) (Weak.cons rfl (Sub.of_eq (by rw [hy] <;> rfl)) (Weak.cons rfl (Sub.refl _) (Weak.cons rfl (Sub.refl _) (Weak.cons rfl (Sub.refl _) Weak.nil)))))
    · have hn : encB4 e = _ := if_neg hf
      refine J.skip ?_
      exact Nrm.mid () trivial (Weak.cons rfl (Sub.refl _) (Weak.cons rfl (Sub.of_eq (by rw [hn])) (Weak.cons rfl (Sub.refl _) (Weak.cons rfl (Sub.refl _) (Weak.cons rfl (Sub.refl _) Weak.nil)))))
  refine J.seqMid (σ := Unit) (fun _ => encM w0 β γ δ e B1 m1 c1 (encB e)) (fun _ => True) ?_ fun _ _ => ?_
  · repeat (first | refine Plan.fieldC rfl rfl rfl rfl (by first | exact Try.underlying31 | exact Try.underlying61) rfl (by kernel_rfl) (by exact (rfl : _ = 3)) ?_ | refine J.seq (J.region mixed hI (by kernel_rfl) ?_))
    refine Plan.loadC (key := 1000) (q := 3) rfl rfl rfl rfl rfl rfl (obj_reads1 rfl) Try.underlying4 rfl (by decide) ?_
    refine J.condD rfl (fun hf => ?_) (fun hf => ?_)
    · have hy : encB e = _ := if_pos hf
      repeat (first | refine Plan.move rfl rfl rfl rfl ?_ | (refine Plan.convInt rfl rfl rfl rfl (by exact Try.underlying3) (by first | exact Try.underlying3 | exact Try.underlying59) ?_; (skip)) | refine Plan.fieldC rfl rfl rfl rfl (by first | exact Try.underlying31 | exact Try.underlying29 | exact Try.underlying25) rfl (by kernel_rfl) (by exact (rfl : _ = 5)) ?_ | refine Plan.loadC (key := 1000) (q := 2) rfl rfl rfl rfl rfl rfl (obj_reads1 rfl) (by exact Try.underlying3) (by rfl) (by decide) ?_ | refine J.region mixed hI (by kernel_rfl) ?_)
      have r1 := (hok.ref hf).1
      have r2 := (hok.ref hf).2
      have r1' := r1.2
      have r2' := r2.2
      have r1'' := r1.1
      have r2'' := r2.1
      have l3 := numI_le r1
      refine Plan.int (y := (e.rr.toNat : Int)) (by exact u64in r1) ?_
      refine Plan.call (B := w0.heap.size) rfl rfl rfl (vlq_Put (encB4 e) e.rr.toNat (by omega) (by omega)) Try.func31 rfl rfl (hBb w0) (by repeat (first | exact Opnds.nil | refine Opnds.cons rfl (by first | exact Sub.refl _ | exact Sub.own) ?_)) ?_
      repeat (first | (refine Plan.convInt rfl rfl rfl rfl (by exact Try.underlying3) (by first | exact Try.underlying3 | exact Try.underlying59) ?_; (refine Plan.int (u64r (by omega)) ?_)) | refine Plan.fieldC rfl rfl rfl rfl (by first | exact Try.underlying31 | exact Try.underlying29 | exact Try.underlying25) rfl (by kernel_rfl) (by first | exact (rfl : _ = 5) | exact (rfl : _ = 6)) ?_ | refine Plan.loadC (key := 1000) (q := 2) rfl rfl rfl rfl rfl rfl (obj_reads1 rfl) (by exact Try.underlying3) (by rfl) (by decide) ?_)
      refine Plan.int (y := (e.rn.toNat : Int)) (by omega) ?_
      refine Plan.call (B := w0.heap.size) rfl rfl rfl (vlq_Put (encB4 e ++ num e.rr.toNat) e.rn.toNat (by omega) (by rw [List.length_append]; unfold numI at l3; omega)) Try.func31 rfl rfl (hBb w0) (by repeat (first | exact Opnds.nil | refine Opnds.cons rfl (by first | exact Sub.refl _ | exact Sub.own) ?_)) ?_
      repeat (refine Plan.assign rfl rfl rfl rfl ?_)
      exact Nrm.mid () trivial (Weak.cons rfl (Sub.refl _) (Weak.cons rfl (Sub.of_eq (by rw [hy] <;> rfl)) (Weak.cons rfl (Sub.refl _) (Weak.cons rfl (Sub.refl _) (Weak.cons rfl (Sub.refl _) Weak.nil)))))
    · have hn : encB e = _ := if_neg hf
      refine J.skip ?_
      exact Nrm.mid () trivial (Weak.cons rfl (Sub.refl _) (Weak.cons rfl (Sub.of_eq (by rw [hn])) (Weak.cons rfl (Sub.refl _) (Weak.cons rfl (Sub.refl _) (Weak.cons rfl (Sub.refl _) Weak.nil)))))
  repeat (first | refine Plan.move rfl rfl rfl rfl ?_ | refine Plan.assign rfl rfl rfl rfl ?_ | refine J.seq (J.region mixed hI (by kernel_rfl) ?_))
  exact J.ret (Nrm.ret2 rfl (fun _ h => h) fun B hB => ⟨_, rfl, Ress.cons rfl (Sub.ownLower hB) (Ress.cons rfl (Sub.refl _) Ress.nil)⟩)
end Go.Proofs.Ythjneijkapopoaa
