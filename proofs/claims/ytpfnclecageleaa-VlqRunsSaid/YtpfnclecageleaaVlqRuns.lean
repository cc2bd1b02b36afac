/-
  The law VlqRuns returns true for any numbers: what was put one behind the other is taken one behind the other.
-/
import Derived.Test.YtpfnclecageleaaVlqText
import Derived.Test.YtpfnclecageleaaFreeMore
namespace Go.Proofs.Ytpfnclecageleaa
open Go.Free Go.RowKit Go.Proofs

def us (l : List Nat) : List Value := l.flatMap fun u : Nat => [.int .u64 u]
theorem us_length (l : List Nat) : (us l).length = l.length := by
  unfold us
  induction l with
  | nil => rfl
  | cons a l ih => simp only [List.flatMap_cons, List.length_append, ih, List.length_cons, List.length_nil]; omega
theorem eltU : Elt Try.prog 50 27 (.int .u64 0) 1 8 := Elt.mk' Try.underlying50 (by kernel_rfl) rfl (by decide) (by decide)
def nums (l : List Nat) : List UInt8 := l.flatMap num
theorem nums_append (l m : List Nat) : nums (l ++ m) = nums l ++ nums m := by simp [nums]
theorem take_one {l : List Nat} {i : Nat} (h : i < l.length) : l.take (i + 1) = l.take i ++ [l.getD i 0] := by
  rw [List.take_add_one, List.getElem?_eq_getElem h]
  simp [List.getD_eq_getElem?_getD, List.getElem?_eq_getElem h]
theorem nums_take {l : List Nat} {i : Nat} (h : i < l.length) : nums (l.take (i + 1)) = nums (l.take i) ++ num (l.getD i 0) := by
  rw [take_one h, nums_append]; simp [nums]
theorem nums_le {l : List Nat} (h : ∀ u ∈ l, u < 2 ^ 64) : (nums l).length ≤ 10 * l.length := by
  induction l with
  | nil => simp [nums]
  | cons a l ih =>
    have h1 := num_le (h a List.mem_cons_self)
    have h2 := ih fun u hu => h u (List.mem_cons_of_mem _ hu)
    simp only [nums, List.flatMap_cons, List.length_append, List.length_cons] at h2 ⊢
    omega
theorem nums_at {l : List Nat} {i : Nat} (h : i < l.length) : (nums l).drop (nums (l.take i)).length = num (l.getD i 0) ++ nums (l.drop (i + 1)) := by
  have e : l = l.take i ++ (l.getD i 0 :: l.drop (i + 1)) := by
    have := List.take_append_drop i l
    rw [List.drop_eq_getElem_cons h] at this
    simp [List.getD_eq_getElem?_getD, List.getElem?_eq_getElem h]
  have e2 : nums l = nums (l.take i) ++ (num (l.getD i 0) ++ nums (l.drop (i + 1))) := by
    conv => lhs; rw [e, nums_append]
    simp [nums]
  rw [e2, List.drop_left]
theorem nums_next {l : List Nat} {i : Nat} (hl : ∀ u ∈ l, u < 2 ^ 64) (h : i < l.length) : vTake (nums l) ((nums (l.take i)).length : Nat) = (l.getD i 0, (nums (l.take (i + 1))).length, 0) := by
  have hle : (nums (l.take i)).length ≤ (nums l).length := by
    conv => rhs; rw [← List.take_append_drop i l, nums_append, List.length_append]
    omega
  have hu : l.getD i 0 < 2 ^ 64 := by
    rw [List.getD_eq_getElem?_getD, List.getElem?_eq_getElem h]; exact hl _ (List.getElem_mem h)
  unfold vTake
  rw [if_neg (by omega), Int.toNat_natCast, nums_at h, takeL_num _ hu, nums_take h, List.length_append]
  rfl
theorem nums_end (l : List Nat) : vTake (nums l) ((nums l).length : Nat) = (0, 0, 2) := by
  unfold vTake
  rw [if_neg (by omega), Int.toNat_natCast, List.drop_length]
  rfl

def runE1 (w0 : World) (l : List Nat) (i : Nat) : Env := [(0, .old w0 (row 1 (us l))), (3, ownB w0.heap.size (nums (l.take i))), (22, .ex (.int .i64 l.length)), (23, .ex (.int .i64 i))]
def runE2 (w0 : World) (l : List Nat) (i : Nat) : Env := [(0, .old w0 (row 1 (us l))), (3, ownB w0.heap.size (nums l)), (5, .ex (.int .i64 (nums (l.take i)).length)), (34, .ex (.int .i64 l.length)), (35, .ex (.int .i64 i))]

theorem lawRuns (l : List Nat) (hu : ∀ u ∈ l, u < 2 ^ 64) (hlen : l.length ≤ 9223372036854775807) : Spc Try.prog 12 [row 1 (us l)] fun _ => .ex (.bool true) := by
  refine Spc.intro Try.func12 rfl (Nat.le_of_ble_eq_true rfl) fun w0 => ?_
  have hI := hIb w0
  refine J.seq (J.region mixed hI (by kernel_rfl) ?_)
  repeat (first
    | refine Plan.move rfl rfl rfl rfl ?_
    | refine Plan.assign rfl rfl rfl rfl ?_
    | refine Plan.skip rfl rfl ?_
    | refine Plan.extract rfl rfl rfl rfl rfl ?_
    | refine Plan.pick rfl rfl rfl rfl rfl ?_
    | refine Plan.lenStr rfl rfl rfl rfl Try.underlying9 ?_
    | (refine Plan.ints rfl rfl rfl rfl rfl rfl ?_; (first | refine Plan.int (i64r (by omega)) ?_ | refine Plan.int (u64r (by omega)) ?_ | refine Plan.int (u8r (by omega)) ?_ | skip))
    | refine Plan.un rfl rfl rfl rfl rfl ?_
    | refine J.seq (J.region mixed hI (by kernel_rfl) ?_)
    | refine J.region mixed hI (by kernel_rfl) ?_
    | refine J.seq (J.seq (J.region mixed hI (by kernel_rfl) ?_))
    | refine J.cond rfl (fun h => by cases h) (fun _ => ?_)
    | refine J.cond rfl (fun _ => ?_) (fun h => by cases h)
    | refine J.skip ?_)
  refine Plan.call (B := w0.heap.size) rfl rfl rfl (awakeV_fn) Try.func18 rfl rfl (hBb w0) (by repeat (first | exact Opnds.nil | refine Opnds.cons rfl (by first | exact Sub.refl _ | exact Sub.own | exact Sub.old (fun _ h => h) | exact Sub.oldOwn (fun _ h => h) | exact Sub.nilRow) ?_)) ?_
  repeat (first
    | refine Plan.move rfl rfl rfl rfl ?_
    | refine Plan.assign rfl rfl rfl rfl ?_
    | refine Plan.skip rfl rfl ?_
    | refine Plan.extract rfl rfl rfl rfl rfl ?_
    | refine Plan.pick rfl rfl rfl rfl rfl ?_
    | refine Plan.lenStr rfl rfl rfl rfl Try.underlying9 ?_
    | (refine Plan.ints rfl rfl rfl rfl rfl rfl ?_; (first | refine Plan.int (i64r (by omega)) ?_ | refine Plan.int (u64r (by omega)) ?_ | refine Plan.int (u8r (by omega)) ?_ | skip))
    | refine Plan.un rfl rfl rfl rfl rfl ?_
    | refine J.seq (J.region mixed hI (by kernel_rfl) ?_)
    | refine J.region mixed hI (by kernel_rfl) ?_
    | refine J.seq (J.seq (J.region mixed hI (by kernel_rfl) ?_))
    | refine J.cond rfl (fun h => by cases h) (fun _ => ?_)
    | refine J.cond rfl (fun _ => ?_) (fun h => by cases h)
    | refine J.skip ?_)
  refine Plan.lenRow rfl rfl rfl rfl (Sub.old fun _ h => h) Try.underlying50 (m := l.length) (by rw [us_length]; omega) (by decide) ?_
  repeat (first
    | refine Plan.move rfl rfl rfl rfl ?_
    | refine Plan.assign rfl rfl rfl rfl ?_
    | refine Plan.skip rfl rfl ?_
    | refine Plan.extract rfl rfl rfl rfl rfl ?_
    | refine Plan.pick rfl rfl rfl rfl rfl ?_
    | refine Plan.lenStr rfl rfl rfl rfl Try.underlying9 ?_
    | (refine Plan.ints rfl rfl rfl rfl rfl rfl ?_; (first | refine Plan.int (i64r (by omega)) ?_ | refine Plan.int (u64r (by omega)) ?_ | refine Plan.int (u8r (by omega)) ?_ | skip))
    | refine Plan.un rfl rfl rfl rfl rfl ?_
    | refine J.seq (J.region mixed hI (by kernel_rfl) ?_)
    | refine J.region mixed hI (by kernel_rfl) ?_
    | refine J.seq (J.seq (J.region mixed hI (by kernel_rfl) ?_))
    | refine J.cond rfl (fun h => by cases h) (fun _ => ?_)
    | refine J.cond rfl (fun _ => ?_) (fun h => by cases h)
    | refine J.skip ?_)
  refine J.condD rfl (fun h => ?_) (fun hbig => ?_)
  · repeat (first
    | refine Plan.move rfl rfl rfl rfl ?_
    | refine Plan.assign rfl rfl rfl rfl ?_
    | refine Plan.skip rfl rfl ?_
    | refine Plan.extract rfl rfl rfl rfl rfl ?_
    | refine Plan.pick rfl rfl rfl rfl rfl ?_
    | refine Plan.lenStr rfl rfl rfl rfl Try.underlying9 ?_
    | (refine Plan.ints rfl rfl rfl rfl rfl rfl ?_; (first | refine Plan.int (i64r (by omega)) ?_ | refine Plan.int (u64r (by omega)) ?_ | refine Plan.int (u8r (by omega)) ?_ | skip))
    | refine Plan.un rfl rfl rfl rfl rfl ?_
    | refine J.seq (J.region mixed hI (by kernel_rfl) ?_)
    | refine J.region mixed hI (by kernel_rfl) ?_
    | refine J.seq (J.seq (J.region mixed hI (by kernel_rfl) ?_))
    | refine J.cond rfl (fun h => by cases h) (fun _ => ?_)
    | refine J.cond rfl (fun _ => ?_) (fun h => by cases h)
    | refine J.skip ?_)
    refine Plan.call (B := w0.heap.size) rfl rfl rfl (awakeV_fn) Try.func18 rfl rfl (hBb w0) (by repeat (first | exact Opnds.nil | refine Opnds.cons rfl (by first | exact Sub.refl _ | exact Sub.own | exact Sub.old (fun _ h => h) | exact Sub.oldOwn (fun _ h => h) | exact Sub.nilRow) ?_)) ?_
    repeat (first
    | refine Plan.move rfl rfl rfl rfl ?_
    | refine Plan.assign rfl rfl rfl rfl ?_
    | refine Plan.skip rfl rfl ?_
    | refine Plan.extract rfl rfl rfl rfl rfl ?_
    | refine Plan.pick rfl rfl rfl rfl rfl ?_
    | refine Plan.lenStr rfl rfl rfl rfl Try.underlying9 ?_
    | (refine Plan.ints rfl rfl rfl rfl rfl rfl ?_; (first | refine Plan.int (i64r (by omega)) ?_ | refine Plan.int (u64r (by omega)) ?_ | refine Plan.int (u8r (by omega)) ?_ | skip))
    | refine Plan.un rfl rfl rfl rfl rfl ?_
    | refine J.seq (J.region mixed hI (by kernel_rfl) ?_)
    | refine J.region mixed hI (by kernel_rfl) ?_
    | refine J.seq (J.seq (J.region mixed hI (by kernel_rfl) ?_))
    | refine J.cond rfl (fun h => by cases h) (fun _ => ?_)
    | refine J.cond rfl (fun _ => ?_) (fun h => by cases h)
    | refine J.skip ?_)
    exact J.ret (Nrm.ret1 rfl (fun _ h => h) rfl fun B _ => Sub.refl _)
  have hn := nums_le hu
  have h64 : ∀ i, l.getD i 0 < 2 ^ 64 := fun i => by
    rw [List.getD_eq_getElem?_getD]
    cases h : l[i]? with
    | none => simp
    | some u => exact hu u (List.mem_of_getElem? h)
  repeat (first
    | refine Plan.move rfl rfl rfl rfl ?_
    | refine Plan.assign rfl rfl rfl rfl ?_
    | refine Plan.skip rfl rfl ?_
    | refine Plan.extract rfl rfl rfl rfl rfl ?_
    | refine Plan.pick rfl rfl rfl rfl rfl ?_
    | refine Plan.lenStr rfl rfl rfl rfl Try.underlying9 ?_
    | (refine Plan.ints rfl rfl rfl rfl rfl rfl ?_; (first | refine Plan.int (i64r (by omega)) ?_ | refine Plan.int (u64r (by omega)) ?_ | refine Plan.int (u8r (by omega)) ?_ | skip))
    | refine Plan.un rfl rfl rfl rfl rfl ?_
    | refine J.seq (J.region mixed hI (by kernel_rfl) ?_)
    | refine J.region mixed hI (by kernel_rfl) ?_
    | refine J.seq (J.seq (J.region mixed hI (by kernel_rfl) ?_))
    | refine J.cond rfl (fun h => by cases h) (fun _ => ?_)
    | refine J.cond rfl (fun _ => ?_) (fun h => by cases h)
    | refine J.skip ?_)
  refine Plan.lenRow rfl rfl rfl rfl (Sub.old fun _ h => h) Try.underlying50 (m := l.length) (by rw [us_length]; omega) (by decide) ?_
  repeat (first
    | refine Plan.move rfl rfl rfl rfl ?_
    | refine Plan.assign rfl rfl rfl rfl ?_
    | refine Plan.skip rfl rfl ?_
    | refine Plan.extract rfl rfl rfl rfl rfl ?_
    | refine Plan.pick rfl rfl rfl rfl rfl ?_
    | refine Plan.lenStr rfl rfl rfl rfl Try.underlying9 ?_
    | (refine Plan.ints rfl rfl rfl rfl rfl rfl ?_; (first | refine Plan.int (i64r (by omega)) ?_ | refine Plan.int (u64r (by omega)) ?_ | refine Plan.int (u8r (by omega)) ?_ | skip))
    | refine Plan.un rfl rfl rfl rfl rfl ?_
    | refine J.seq (J.region mixed hI (by kernel_rfl) ?_)
    | refine J.region mixed hI (by kernel_rfl) ?_
    | refine J.seq (J.seq (J.region mixed hI (by kernel_rfl) ?_))
    | refine J.cond rfl (fun h => by cases h) (fun _ => ?_)
    | refine J.cond rfl (fun _ => ?_) (fun h => by cases h)
    | refine J.skip ?_)
  refine J.block (J.loop (runE1 w0 l) (fun i => i ≤ l.length) (fun i => l.length - i) 0 (Nat.zero_le _) ?_ ?_)
  · exact Weak.cons rfl (Sub.refl _) (Weak.cons rfl (Sub.nilOwn (hBb w0)) (Weak.cons rfl (Sub.refl _) (Weak.cons rfl (Sub.refl _) Weak.nil)))
  · intro i hi
    repeat (first
    | refine Plan.move rfl rfl rfl rfl ?_
    | refine Plan.assign rfl rfl rfl rfl ?_
    | refine Plan.skip rfl rfl ?_
    | refine Plan.extract rfl rfl rfl rfl rfl ?_
    | refine Plan.pick rfl rfl rfl rfl rfl ?_
    | refine Plan.lenStr rfl rfl rfl rfl Try.underlying9 ?_
    | (refine Plan.ints rfl rfl rfl rfl rfl rfl ?_; (first | refine Plan.int (i64r (by omega)) ?_ | refine Plan.int (u64r (by omega)) ?_ | refine Plan.int (u8r (by omega)) ?_ | skip))
    | refine Plan.un rfl rfl rfl rfl rfl ?_
    | refine J.seq (J.region mixed hI (by kernel_rfl) ?_)
    | refine J.region mixed hI (by kernel_rfl) ?_
    | refine J.seq (J.seq (J.region mixed hI (by kernel_rfl) ?_))
    | refine J.cond rfl (fun h => by cases h) (fun _ => ?_)
    | refine J.cond rfl (fun _ => ?_) (fun h => by cases h)
    | refine J.skip ?_)
    refine J.seq (J.condD rfl (fun hc => ?_) (fun hc => ?_))
    · have hlt : i < l.length := by omega
      have hle : (nums (l.take i)).length ≤ 10 * l.length := by
        have := nums_le (l := l.take i) fun u h => hu u (List.mem_of_mem_take h)
        rw [List.length_take] at this; omega
      repeat (first
    | refine Plan.move rfl rfl rfl rfl ?_
    | refine Plan.assign rfl rfl rfl rfl ?_
    | refine Plan.skip rfl rfl ?_
    | refine Plan.extract rfl rfl rfl rfl rfl ?_
    | refine Plan.pick rfl rfl rfl rfl rfl ?_
    | refine Plan.lenStr rfl rfl rfl rfl Try.underlying9 ?_
    | (refine Plan.ints rfl rfl rfl rfl rfl rfl ?_; (first | refine Plan.int (i64r (by omega)) ?_ | refine Plan.int (u64r (by omega)) ?_ | refine Plan.int (u8r (by omega)) ?_ | skip))
    | refine Plan.un rfl rfl rfl rfl rfl ?_
    | refine J.seq (J.region mixed hI (by kernel_rfl) ?_)
    | refine J.region mixed hI (by kernel_rfl) ?_
    | refine J.seq (J.seq (J.region mixed hI (by kernel_rfl) ?_))
    | refine J.cond rfl (fun h => by cases h) (fun _ => ?_)
    | refine J.cond rfl (fun _ => ?_) (fun h => by cases h)
    | refine J.skip ?_)
      refine J.seq (J.block ?_)
      repeat (first
    | refine Plan.move rfl rfl rfl rfl ?_
    | refine Plan.assign rfl rfl rfl rfl ?_
    | refine Plan.skip rfl rfl ?_
    | refine Plan.extract rfl rfl rfl rfl rfl ?_
    | refine Plan.pick rfl rfl rfl rfl rfl ?_
    | refine Plan.lenStr rfl rfl rfl rfl Try.underlying9 ?_
    | (refine Plan.ints rfl rfl rfl rfl rfl rfl ?_; (first | refine Plan.int (i64r (by omega)) ?_ | refine Plan.int (u64r (by omega)) ?_ | refine Plan.int (u8r (by omega)) ?_ | skip))
    | refine Plan.un rfl rfl rfl rfl rfl ?_
    | refine J.seq (J.region mixed hI (by kernel_rfl) ?_)
    | refine J.region mixed hI (by kernel_rfl) ?_
    | refine J.seq (J.seq (J.region mixed hI (by kernel_rfl) ?_))
    | refine J.cond rfl (fun h => by cases h) (fun _ => ?_)
    | refine J.cond rfl (fun _ => ?_) (fun h => by cases h)
    | refine J.skip ?_)
      refine Plan.indexAddr (fun u : Nat => [.int .u64 u]) 1 l 0 rfl rfl rfl rfl (Sub.old fun _ h => h) rfl eltU (fun _ => rfl) (by omega) (by omega) ?_
      refine Plan.load rfl rfl rfl rfl (Sub.refl _) Try.underlying27 rfl ?_
      rw [Int.toNat_natCast]
      refine Plan.call (B := w0.heap.size) rfl rfl rfl (vlq_Put (nums (l.take i)) (l.getD i 0) (h64 i) (by omega)) Try.func19 rfl rfl (hBb w0) (by repeat (first | exact Opnds.nil | refine Opnds.cons rfl (by first | exact Sub.refl _ | exact Sub.own | exact Sub.old (fun _ h => h) | exact Sub.oldOwn (fun _ h => h) | exact Sub.nilRow) ?_)) ?_
      repeat (first
    | refine Plan.move rfl rfl rfl rfl ?_
    | refine Plan.assign rfl rfl rfl rfl ?_
    | refine Plan.skip rfl rfl ?_
    | refine Plan.extract rfl rfl rfl rfl rfl ?_
    | refine Plan.pick rfl rfl rfl rfl rfl ?_
    | refine Plan.lenStr rfl rfl rfl rfl Try.underlying9 ?_
    | (refine Plan.ints rfl rfl rfl rfl rfl rfl ?_; (first | refine Plan.int (i64r (by omega)) ?_ | refine Plan.int (u64r (by omega)) ?_ | refine Plan.int (u8r (by omega)) ?_ | skip))
    | refine Plan.un rfl rfl rfl rfl rfl ?_
    | refine J.seq (J.region mixed hI (by kernel_rfl) ?_)
    | refine J.region mixed hI (by kernel_rfl) ?_
    | refine J.seq (J.seq (J.region mixed hI (by kernel_rfl) ?_))
    | refine J.cond rfl (fun h => by cases h) (fun _ => ?_)
    | refine J.cond rfl (fun _ => ?_) (fun h => by cases h)
    | refine J.skip ?_)
      refine Nrm.next (i + 1) hlt (by omega) ?_
      exact Weak.cons rfl (Sub.refl _) (Weak.cons rfl (Sub.of_eq (by rw [nums_take hlt])) (Weak.cons rfl (Sub.refl _) (Weak.cons rfl (Sub.refl _) Weak.nil)))
    · have hie : i = l.length := by omega
      refine J.exit ?_
      refine Nrm.weak [(0, .old w0 (row 1 (us l))), (3, ownB w0.heap.size (nums l))] (Weak.cons rfl (Sub.refl _) (Weak.cons rfl (Sub.of_eq (by rw [hie, List.take_length])) Weak.nil)) ?_
      repeat (first
    | refine Plan.move rfl rfl rfl rfl ?_
    | refine Plan.assign rfl rfl rfl rfl ?_
    | refine Plan.skip rfl rfl ?_
    | refine Plan.extract rfl rfl rfl rfl rfl ?_
    | refine Plan.pick rfl rfl rfl rfl rfl ?_
    | refine Plan.lenStr rfl rfl rfl rfl Try.underlying9 ?_
    | (refine Plan.ints rfl rfl rfl rfl rfl rfl ?_; (first | refine Plan.int (i64r (by omega)) ?_ | refine Plan.int (u64r (by omega)) ?_ | refine Plan.int (u8r (by omega)) ?_ | skip))
    | refine Plan.un rfl rfl rfl rfl rfl ?_
    | refine J.seq (J.region mixed hI (by kernel_rfl) ?_)
    | refine J.region mixed hI (by kernel_rfl) ?_
    | refine J.seq (J.seq (J.region mixed hI (by kernel_rfl) ?_))
    | refine J.cond rfl (fun h => by cases h) (fun _ => ?_)
    | refine J.cond rfl (fun _ => ?_) (fun h => by cases h)
    | refine J.skip ?_)
      refine Plan.lenRow rfl rfl rfl rfl (Sub.old fun _ h => h) Try.underlying50 (m := l.length) (by rw [us_length]; omega) (by decide) ?_
      repeat (first
    | refine Plan.move rfl rfl rfl rfl ?_
    | refine Plan.assign rfl rfl rfl rfl ?_
    | refine Plan.skip rfl rfl ?_
    | refine Plan.extract rfl rfl rfl rfl rfl ?_
    | refine Plan.pick rfl rfl rfl rfl rfl ?_
    | refine Plan.lenStr rfl rfl rfl rfl Try.underlying9 ?_
    | (refine Plan.ints rfl rfl rfl rfl rfl rfl ?_; (first | refine Plan.int (i64r (by omega)) ?_ | refine Plan.int (u64r (by omega)) ?_ | refine Plan.int (u8r (by omega)) ?_ | skip))
    | refine Plan.un rfl rfl rfl rfl rfl ?_
    | refine J.seq (J.region mixed hI (by kernel_rfl) ?_)
    | refine J.region mixed hI (by kernel_rfl) ?_
    | refine J.seq (J.seq (J.region mixed hI (by kernel_rfl) ?_))
    | refine J.cond rfl (fun h => by cases h) (fun _ => ?_)
    | refine J.cond rfl (fun _ => ?_) (fun h => by cases h)
    | refine J.skip ?_)
      refine J.block (J.loop (runE2 w0 l) (fun i => i ≤ l.length) (fun i => l.length - i) 0 (Nat.zero_le _) ?_ ?_)
      · repeat (first | exact Weak.nil | refine Weak.cons rfl (Sub.refl _) ?_)
      · intro i hi
        have hni : (nums (l.take i)).length ≤ 10 * l.length := by
          have := nums_le (l := l.take i) fun u h => hu u (List.mem_of_mem_take h)
          rw [List.length_take] at this; omega
        repeat (first
    | refine Plan.move rfl rfl rfl rfl ?_
    | refine Plan.assign rfl rfl rfl rfl ?_
    | refine Plan.skip rfl rfl ?_
    | refine Plan.extract rfl rfl rfl rfl rfl ?_
    | refine Plan.pick rfl rfl rfl rfl rfl ?_
    | refine Plan.lenStr rfl rfl rfl rfl Try.underlying9 ?_
    | (refine Plan.ints rfl rfl rfl rfl rfl rfl ?_; (first | refine Plan.int (i64r (by omega)) ?_ | refine Plan.int (u64r (by omega)) ?_ | refine Plan.int (u8r (by omega)) ?_ | skip))
    | refine Plan.un rfl rfl rfl rfl rfl ?_
    | refine J.seq (J.region mixed hI (by kernel_rfl) ?_)
    | refine J.region mixed hI (by kernel_rfl) ?_
    | refine J.seq (J.seq (J.region mixed hI (by kernel_rfl) ?_))
    | refine J.cond rfl (fun h => by cases h) (fun _ => ?_)
    | refine J.cond rfl (fun _ => ?_) (fun h => by cases h)
    | refine J.skip ?_)
        refine J.seq (J.condD rfl (fun hc => ?_) (fun hc => ?_))
        · have hlt : i < l.length := by omega
          repeat (first
    | refine Plan.move rfl rfl rfl rfl ?_
    | refine Plan.assign rfl rfl rfl rfl ?_
    | refine Plan.skip rfl rfl ?_
    | refine Plan.extract rfl rfl rfl rfl rfl ?_
    | refine Plan.pick rfl rfl rfl rfl rfl ?_
    | refine Plan.lenStr rfl rfl rfl rfl Try.underlying9 ?_
    | (refine Plan.ints rfl rfl rfl rfl rfl rfl ?_; (first | refine Plan.int (i64r (by omega)) ?_ | refine Plan.int (u64r (by omega)) ?_ | refine Plan.int (u8r (by omega)) ?_ | skip))
    | refine Plan.un rfl rfl rfl rfl rfl ?_
    | refine J.seq (J.region mixed hI (by kernel_rfl) ?_)
    | refine J.region mixed hI (by kernel_rfl) ?_
    | refine J.seq (J.seq (J.region mixed hI (by kernel_rfl) ?_))
    | refine J.cond rfl (fun h => by cases h) (fun _ => ?_)
    | refine J.cond rfl (fun _ => ?_) (fun h => by cases h)
    | refine J.skip ?_)
          refine J.seq (J.block ?_)
          repeat (first
    | refine Plan.move rfl rfl rfl rfl ?_
    | refine Plan.assign rfl rfl rfl rfl ?_
    | refine Plan.skip rfl rfl ?_
    | refine Plan.extract rfl rfl rfl rfl rfl ?_
    | refine Plan.pick rfl rfl rfl rfl rfl ?_
    | refine Plan.lenStr rfl rfl rfl rfl Try.underlying9 ?_
    | (refine Plan.ints rfl rfl rfl rfl rfl rfl ?_; (first | refine Plan.int (i64r (by omega)) ?_ | refine Plan.int (u64r (by omega)) ?_ | refine Plan.int (u8r (by omega)) ?_ | skip))
    | refine Plan.un rfl rfl rfl rfl rfl ?_
    | refine J.seq (J.region mixed hI (by kernel_rfl) ?_)
    | refine J.region mixed hI (by kernel_rfl) ?_
    | refine J.seq (J.seq (J.region mixed hI (by kernel_rfl) ?_))
    | refine J.cond rfl (fun h => by cases h) (fun _ => ?_)
    | refine J.cond rfl (fun _ => ?_) (fun h => by cases h)
    | refine J.skip ?_)
          refine Plan.call (B := w0.heap.size) rfl rfl rfl (vlq_Take (nums l) ((nums (l.take i)).length : Nat) (by omega) (by omega)) Try.func30 rfl rfl (hBb w0) (by repeat (first | exact Opnds.nil | refine Opnds.cons rfl (by first | exact Sub.refl _ | exact Sub.own | exact Sub.old (fun _ h => h) | exact Sub.oldOwn (fun _ h => h) | exact Sub.nilRow) ?_)) ?_
          rw [takeRes, nums_next hu hlt]
          repeat (first
    | refine Plan.move rfl rfl rfl rfl ?_
    | refine Plan.assign rfl rfl rfl rfl ?_
    | refine Plan.skip rfl rfl ?_
    | refine Plan.extract rfl rfl rfl rfl rfl ?_
    | refine Plan.pick rfl rfl rfl rfl rfl ?_
    | refine Plan.lenStr rfl rfl rfl rfl Try.underlying9 ?_
    | (refine Plan.ints rfl rfl rfl rfl rfl rfl ?_; (first | refine Plan.int (i64r (by omega)) ?_ | refine Plan.int (u64r (by omega)) ?_ | refine Plan.int (u8r (by omega)) ?_ | skip))
    | refine Plan.un rfl rfl rfl rfl rfl ?_
    | refine J.seq (J.region mixed hI (by kernel_rfl) ?_)
    | refine J.region mixed hI (by kernel_rfl) ?_
    | refine J.seq (J.seq (J.region mixed hI (by kernel_rfl) ?_))
    | refine J.cond rfl (fun h => by cases h) (fun _ => ?_)
    | refine J.cond rfl (fun _ => ?_) (fun h => by cases h)
    | refine J.skip ?_)
          refine Plan.indexAddr (fun u : Nat => [.int .u64 u]) 1 l 0 rfl rfl rfl rfl (Sub.old fun _ h => h) rfl eltU (fun _ => rfl) (by omega) (by omega) ?_
          refine Plan.load rfl rfl rfl rfl (Sub.refl _) Try.underlying27 rfl ?_
          rw [Int.toNat_natCast]
          repeat (first
    | refine Plan.move rfl rfl rfl rfl ?_
    | refine Plan.assign rfl rfl rfl rfl ?_
    | refine Plan.skip rfl rfl ?_
    | refine Plan.extract rfl rfl rfl rfl rfl ?_
    | refine Plan.pick rfl rfl rfl rfl rfl ?_
    | refine Plan.lenStr rfl rfl rfl rfl Try.underlying9 ?_
    | (refine Plan.ints rfl rfl rfl rfl rfl rfl ?_; (first | refine Plan.int (i64r (by omega)) ?_ | refine Plan.int (u64r (by omega)) ?_ | refine Plan.int (u8r (by omega)) ?_ | skip))
    | refine Plan.un rfl rfl rfl rfl rfl ?_
    | refine J.seq (J.region mixed hI (by kernel_rfl) ?_)
    | refine J.region mixed hI (by kernel_rfl) ?_
    | refine J.seq (J.seq (J.region mixed hI (by kernel_rfl) ?_))
    | refine J.cond rfl (fun h => by cases h) (fun _ => ?_)
    | refine J.cond rfl (fun _ => ?_) (fun h => by cases h)
    | refine J.skip ?_)
          refine Plan.neF rfl ?_
          repeat (first
    | refine Plan.move rfl rfl rfl rfl ?_
    | refine Plan.assign rfl rfl rfl rfl ?_
    | refine Plan.skip rfl rfl ?_
    | refine Plan.extract rfl rfl rfl rfl rfl ?_
    | refine Plan.pick rfl rfl rfl rfl rfl ?_
    | refine Plan.lenStr rfl rfl rfl rfl Try.underlying9 ?_
    | (refine Plan.ints rfl rfl rfl rfl rfl rfl ?_; (first | refine Plan.int (i64r (by omega)) ?_ | refine Plan.int (u64r (by omega)) ?_ | refine Plan.int (u8r (by omega)) ?_ | skip))
    | refine Plan.un rfl rfl rfl rfl rfl ?_
    | refine J.seq (J.region mixed hI (by kernel_rfl) ?_)
    | refine J.region mixed hI (by kernel_rfl) ?_
    | refine J.seq (J.seq (J.region mixed hI (by kernel_rfl) ?_))
    | refine J.cond rfl (fun h => by cases h) (fun _ => ?_)
    | refine J.cond rfl (fun _ => ?_) (fun h => by cases h)
    | refine J.skip ?_)
          refine Plan.isF ?_ ?_
          · rw [nums_take hlt, List.length_append]; have := num_pos (l.getD i 0); dsimp only; omega
          repeat (first
    | refine Plan.move rfl rfl rfl rfl ?_
    | refine Plan.assign rfl rfl rfl rfl ?_
    | refine Plan.skip rfl rfl ?_
    | refine Plan.extract rfl rfl rfl rfl rfl ?_
    | refine Plan.pick rfl rfl rfl rfl rfl ?_
    | refine Plan.lenStr rfl rfl rfl rfl Try.underlying9 ?_
    | (refine Plan.ints rfl rfl rfl rfl rfl rfl ?_; (first | refine Plan.int (i64r (by omega)) ?_ | refine Plan.int (u64r (by omega)) ?_ | refine Plan.int (u8r (by omega)) ?_ | skip))
    | refine Plan.un rfl rfl rfl rfl rfl ?_
    | refine J.seq (J.region mixed hI (by kernel_rfl) ?_)
    | refine J.region mixed hI (by kernel_rfl) ?_
    | refine J.seq (J.seq (J.region mixed hI (by kernel_rfl) ?_))
    | refine J.cond rfl (fun h => by cases h) (fun _ => ?_)
    | refine J.cond rfl (fun _ => ?_) (fun h => by cases h)
    | refine J.skip ?_)
          refine Nrm.next (i + 1) hlt (by omega) ?_
          repeat (first | exact Weak.nil | refine Weak.cons rfl (Sub.refl _) ?_)
        · have hie : i = l.length := by omega
          refine J.exit ?_
          refine Nrm.weak [(3, ownB w0.heap.size (nums l)), (5, .ex (.int .i64 (nums l).length))] (Weak.cons rfl (Sub.refl _) (Weak.cons rfl (Sub.of_eq (by rw [hie, List.take_length])) Weak.nil)) ?_
          repeat (first
    | refine Plan.move rfl rfl rfl rfl ?_
    | refine Plan.assign rfl rfl rfl rfl ?_
    | refine Plan.skip rfl rfl ?_
    | refine Plan.extract rfl rfl rfl rfl rfl ?_
    | refine Plan.pick rfl rfl rfl rfl rfl ?_
    | refine Plan.lenStr rfl rfl rfl rfl Try.underlying9 ?_
    | (refine Plan.ints rfl rfl rfl rfl rfl rfl ?_; (first | refine Plan.int (i64r (by omega)) ?_ | refine Plan.int (u64r (by omega)) ?_ | refine Plan.int (u8r (by omega)) ?_ | skip))
    | refine Plan.un rfl rfl rfl rfl rfl ?_
    | refine J.seq (J.region mixed hI (by kernel_rfl) ?_)
    | refine J.region mixed hI (by kernel_rfl) ?_
    | refine J.seq (J.seq (J.region mixed hI (by kernel_rfl) ?_))
    | refine J.cond rfl (fun h => by cases h) (fun _ => ?_)
    | refine J.cond rfl (fun _ => ?_) (fun h => by cases h)
    | refine J.skip ?_)
          refine Plan.call (B := w0.heap.size) rfl rfl rfl (vlq_Take (nums l) ((nums l).length : Nat) (by omega) (by omega)) Try.func30 rfl rfl (hBb w0) (by repeat (first | exact Opnds.nil | refine Opnds.cons rfl (by first | exact Sub.refl _ | exact Sub.own | exact Sub.old (fun _ h => h) | exact Sub.oldOwn (fun _ h => h) | exact Sub.nilRow) ?_)) ?_
          rw [takeRes, nums_end]
          repeat (first
    | refine Plan.move rfl rfl rfl rfl ?_
    | refine Plan.assign rfl rfl rfl rfl ?_
    | refine Plan.skip rfl rfl ?_
    | refine Plan.extract rfl rfl rfl rfl rfl ?_
    | refine Plan.pick rfl rfl rfl rfl rfl ?_
    | refine Plan.lenStr rfl rfl rfl rfl Try.underlying9 ?_
    | (refine Plan.ints rfl rfl rfl rfl rfl rfl ?_; (first | refine Plan.int (i64r (by omega)) ?_ | refine Plan.int (u64r (by omega)) ?_ | refine Plan.int (u8r (by omega)) ?_ | skip))
    | refine Plan.un rfl rfl rfl rfl rfl ?_
    | refine J.seq (J.region mixed hI (by kernel_rfl) ?_)
    | refine J.region mixed hI (by kernel_rfl) ?_
    | refine J.seq (J.seq (J.region mixed hI (by kernel_rfl) ?_))
    | refine J.cond rfl (fun h => by cases h) (fun _ => ?_)
    | refine J.cond rfl (fun _ => ?_) (fun h => by cases h)
    | refine J.skip ?_)
          refine Plan.lenRow rfl rfl rfl rfl Sub.own Try.underlying23 (m := (nums l).length) (by rw [bs_length]; omega) (by decide) ?_
          repeat (first
    | refine Plan.move rfl rfl rfl rfl ?_
    | refine Plan.assign rfl rfl rfl rfl ?_
    | refine Plan.skip rfl rfl ?_
    | refine Plan.extract rfl rfl rfl rfl rfl ?_
    | refine Plan.pick rfl rfl rfl rfl rfl ?_
    | refine Plan.lenStr rfl rfl rfl rfl Try.underlying9 ?_
    | (refine Plan.ints rfl rfl rfl rfl rfl rfl ?_; (first | refine Plan.int (i64r (by omega)) ?_ | refine Plan.int (u64r (by omega)) ?_ | refine Plan.int (u8r (by omega)) ?_ | skip))
    | refine Plan.un rfl rfl rfl rfl rfl ?_
    | refine J.seq (J.region mixed hI (by kernel_rfl) ?_)
    | refine J.region mixed hI (by kernel_rfl) ?_
    | refine J.seq (J.seq (J.region mixed hI (by kernel_rfl) ?_))
    | refine J.cond rfl (fun h => by cases h) (fun _ => ?_)
    | refine J.cond rfl (fun _ => ?_) (fun h => by cases h)
    | refine J.skip ?_)
          refine Plan.eqT rfl ?_
          repeat (first
    | refine Plan.move rfl rfl rfl rfl ?_
    | refine Plan.assign rfl rfl rfl rfl ?_
    | refine Plan.skip rfl rfl ?_
    | refine Plan.extract rfl rfl rfl rfl rfl ?_
    | refine Plan.pick rfl rfl rfl rfl rfl ?_
    | refine Plan.lenStr rfl rfl rfl rfl Try.underlying9 ?_
    | (refine Plan.ints rfl rfl rfl rfl rfl rfl ?_; (first | refine Plan.int (i64r (by omega)) ?_ | refine Plan.int (u64r (by omega)) ?_ | refine Plan.int (u8r (by omega)) ?_ | skip))
    | refine Plan.un rfl rfl rfl rfl rfl ?_
    | refine J.seq (J.region mixed hI (by kernel_rfl) ?_)
    | refine J.region mixed hI (by kernel_rfl) ?_
    | refine J.seq (J.seq (J.region mixed hI (by kernel_rfl) ?_))
    | refine J.cond rfl (fun h => by cases h) (fun _ => ?_)
    | refine J.cond rfl (fun _ => ?_) (fun h => by cases h)
    | refine J.skip ?_)
          exact J.ret (Nrm.ret1 rfl (fun _ h => h) rfl fun B _ => Sub.refl _)
end Go.Proofs.Ytpfnclecageleaa
