/-
  Disks: what Crash does.
-/
import Derived.Test.YtdfdhhepbkejpaaDiskFns3
namespace Go.Proofs.Ytdfdhhepbkejpaa
open Go.Free Go.RowKit Go.Proofs
set_option maxHeartbeats 2000000

/-- The first i of 16 bits of m turned, from a place on. -/
def flips (l : List UInt8) (p m : Nat) : Nat → List UInt8
  | 0 => l
  | i + 1 => if m / 2 ^ (15 - i) % 2 = 1 then flipAt (flips l p m i) (p + i) else flips l p m i
theorem flips_length (l : List UInt8) (p m : Nat) : ∀ i, (flips l p m i).length = l.length
  | 0 => rfl
  | i + 1 => by unfold flips; split <;> simp [flip_length, flips_length l p m i]
def keptOf (n : Nat) (keep : Int) : Nat := (max 0 (min keep n)).toNat
def tailOf (t : List UInt8) (at_ turn : Int) : List UInt8 :=
  if 2 ≤ t.length then flips t (at_ % ((8 * t.length : Nat) - 15)).toNat (turn % 65536).toNat 16 else t
def crashOf (l : List UInt8) (f : Nat) (keep at_ turn : Int) : List UInt8 := l.take f ++ tailOf ((l.drop f).take (keptOf (l.length - f) keep)) at_ turn
theorem kept_eq (n : Nat) (keep : Int) : ((keptOf n keep : Nat) : Int) = if (if ((n : Nat) : Int) < keep then ((n : Nat) : Int) else keep) > 0 then (if ((n : Nat) : Int) < keep then ((n : Nat) : Int) else keep) else 0 := by
  unfold keptOf; split <;> split <;> omega
theorem kept_le (n : Nat) (keep : Int) : keptOf n keep ≤ n := by unfold keptOf; omega
theorem tail_length (t : List UInt8) (a b : Int) : (tailOf t a b).length = t.length := by unfold tailOf; split <;> simp [flips_length]

theorem and1i (x : Nat) (h : x < 65536) : IntKind.i64.wrap ((BitVec.ofInt IntKind.i64.bits (x : Int) &&& BitVec.ofInt IntKind.i64.bits 1).toNat : Int) = ((x % 2 : Nat) : Int) := by
  have e : (BitVec.ofInt IntKind.i64.bits (x : Int) &&& BitVec.ofInt IntKind.i64.bits 1).toNat = x % 2 := by
    show (BitVec.ofInt 64 (x : Int) &&& BitVec.ofInt 64 1).toNat = _
    rw [BitVec.toNat_and, BitVec.ofInt_natCast, BitVec.toNat_ofNat, Nat.mod_eq_of_lt (by omega)]
    exact Nat.and_one_is_mod x
  rw [e, i64r (by omega)]
theorem bit_natD (pos : Nat) : ((128 / 2 ^ (pos % 8) : Nat) : Int) = (bitAt pos).toNat := by
  have h : pos % 8 < 8 := Nat.mod_lt _ (by decide)
  have e : (bitAt pos).toNat = 128 / 2 ^ (pos % 8) := by
    unfold bitAt
    generalize pos % 8 = r at h
    have : r = 0 ∨ r = 1 ∨ r = 2 ∨ r = 3 ∨ r = 4 ∨ r = 5 ∨ r = 6 ∨ r = 7 := by omega
    rcases this with rfl | rfl | rfl | rfl | rfl | rfl | rfl | rfl <;> rfl
  rw [e]

def crashE (β g cap f kp r p m : Nat) (turn : Int) (A : Nat → Prop) (h t0 : List UInt8) (i : Nat) : Env :=
  [(0, .ex (ptr β)), (3, .ex (.int .i64 turn)), (9, .ex (.slice (some ⟨g, 0 + f * 1, none⟩) (f + kp - f) (cap - f))), (10, .ex (.int .i64 p)), (57, .ex (.int .i64 i)),
   (1000, heap A [obj β [.slice (some ⟨g, 0, none⟩) (f + kp) cap, .int .i64 f, .int .i64 r], rowC 5 1 (some ⟨g, 0, none⟩) (f + kp) cap (bs (h ++ flips t0 p m i))])]

theorem disk_Crash (β : Nat) (l : List UInt8) (f r : Nat) (keep at_ turn : Int) (hl : l.length ≤ 65536) (hf : f ≤ l.length)
    (hkeep : -9223372036854775808 ≤ keep ∧ keep ≤ 9223372036854775807) (hat : -9223372036854775808 ≤ at_ ∧ at_ ≤ 9223372036854775807) (hturn : -9223372036854775808 ≤ turn ∧ turn ≤ 9223372036854775807) :
    SpcC Try.prog 23 [.ex (ptr β), .ex (.int .i64 keep), .ex (.int .i64 at_), .ex (.int .i64 turn)] (diskC β l f r) (fun _ : Unit => True)
    (fun _ => Fa.any) (fun _ => diskC β (crashOf l f keep at_ turn) (crashOf l f keep at_ turn).length r) := by
  refine SpcC.intro Try.func23 rfl (Nat.le_of_ble_eq_true rfl) fun w0 F => ?_
  have hI := kept_below F w0
  have hA := Own.kept F w0
  refine J.exC (key := 1000) (q := 0) rfl rfl fun x => ?_
  refine J.sepC (key := 1000) (q := 0) rfl rfl ?_
  refine J.factC (key := 1000) (q := 1) rfl rfl (fun w F hh => row_fact hh) fun hfact => ?_
  obtain ⟨-, hcap, hcapM, hB⟩ := hfact
  obtain ⟨B, cap⟩ := x
  dsimp only at hcap hcapM hB
  dsimp only
  repeat (first
    | refine Plan.move rfl rfl rfl rfl ?_
    | refine Plan.assign rfl rfl rfl rfl ?_
    | refine Plan.skip rfl rfl ?_
    | refine Plan.extract rfl rfl rfl rfl rfl ?_
    | refine Plan.pick rfl rfl rfl rfl rfl ?_
    | refine Plan.lenStr rfl rfl rfl rfl Try.underlying9 ?_
    | refine Plan.lenE rfl rfl rfl rfl Try.underlying27 ?_
    | (refine Plan.ints rfl rfl rfl rfl rfl rfl ?_; (first | refine Plan.int (i64u8 _) ?_ | refine Plan.int (i64r (by omega)) ?_ | refine Plan.int (u64r (by omega)) ?_ | refine Plan.int (u8r (by omega)) ?_ | refine Plan.int (u16r (by omega)) ?_ | refine Plan.int (quoN (by omega)) ?_ | refine Plan.int (remN _ _) ?_ | refine Plan.int (u8N _) ?_ | skip))
    | refine Plan.un rfl rfl rfl rfl rfl ?_
    | refine Plan.lenB rfl rfl rfl rfl (by first | exact Sub.refl _ | exact Sub.own | exact Sub.old (fun _ h => h) | exact Sub.oldOwn (fun _ h => h) | exact Sub.nilRow | exact Sub.ownLower hB | exact Sub.nilOwn (fun _ h => Nat.le_trans hB h.size)) Try.underlying27 ?_
    | (refine Plan.convInt rfl rfl rfl rfl (by first | exact Try.underlying2 | exact Try.underlying3 | exact Try.underlying5 | exact Try.underlying21 | exact Try.underlying25 | exact Try.underlying33 | exact Try.underlying53 | exact Try.underlying89) (by first | exact Try.underlying2 | exact Try.underlying3 | exact Try.underlying5 | exact Try.underlying21 | exact Try.underlying25 | exact Try.underlying33 | exact Try.underlying53 | exact Try.underlying89) ?_; (first | refine Plan.int (i64u8 _) ?_ | refine Plan.int (i64r (by omega)) ?_ | refine Plan.int (u64r (by omega)) ?_ | refine Plan.int (u8r (by omega)) ?_ | refine Plan.int (u16r (by omega)) ?_ | refine Plan.int (quoN (by omega)) ?_ | refine Plan.int (remN _ _) ?_ | refine Plan.int (u8N _) ?_ | skip))
    | refine Plan.nilOk rfl rfl rfl rfl ?_
    | refine Plan.fieldC rfl rfl rfl rfl (by first | exact Try.underlying65 | exact Try.underlying67 | exact Try.underlying73) rfl (by kernel_rfl) (by first | exact (rfl : _ = 0) | exact (rfl : _ = 1) | exact (rfl : _ = 2) | exact (rfl : _ = 3) | exact (rfl : _ = 4) | exact (rfl : _ = 5)) ?_
    | refine Plan.loadC (key := 1000) (q := 0) rfl rfl rfl rfl rfl rfl (obj_reads1 rfl) (by first | exact Try.underlying3 | exact Try.underlying9 | exact Try.underlying27 | exact Try.underlying4 | exact Try.underlying5 | exact Try.underlying33 | exact Try.underlying25 | exact Try.underlying23) (by rfl) (by decide) ?_
    | refine Plan.loadC (key := 1000) (q := 1) rfl rfl rfl rfl rfl rfl (obj_reads1 rfl) (by first | exact Try.underlying3 | exact Try.underlying9 | exact Try.underlying27 | exact Try.underlying4 | exact Try.underlying5 | exact Try.underlying33 | exact Try.underlying25 | exact Try.underlying23) (by rfl) (by decide) ?_
    | refine Plan.loadC (key := 1000) (q := 2) rfl rfl rfl rfl rfl rfl (obj_reads1 rfl) (by first | exact Try.underlying3 | exact Try.underlying9 | exact Try.underlying27 | exact Try.underlying4 | exact Try.underlying5 | exact Try.underlying33 | exact Try.underlying25 | exact Try.underlying23) (by rfl) (by decide) ?_
    | refine Plan.eqlPtr rfl rfl rfl rfl (by kernel_rfl) ?_
    | refine Plan.neqPtr rfl rfl rfl rfl (by kernel_rfl) ?_
    | refine J.seq (J.region mixed hI (by kernel_rfl) ?_)
    | refine J.region mixed hI (by kernel_rfl) ?_
    | refine J.seq (J.seq (J.region mixed hI (by kernel_rfl) ?_))
    | refine J.condF rfl ?_
    | refine J.condT rfl ?_
    | refine J.skip ?_)
  refine Plan.int (y := ((l.length - f : Nat) : Int)) (by omega) ?_
  refine Plan.min2 rfl rfl rfl rfl rfl ?_
  refine Plan.max2 rfl rfl rfl rfl rfl ?_
  rw [← kept_eq]
  obtain ⟨kp, hkp⟩ : ∃ kp, kp = keptOf (l.length - f) keep := ⟨_, rfl⟩
  have hkple : kp ≤ l.length - f := by rw [hkp]; exact kept_le _ _
  rw [← hkp]
  repeat (first
    | refine Plan.move rfl rfl rfl rfl ?_
    | refine Plan.assign rfl rfl rfl rfl ?_
    | refine Plan.skip rfl rfl ?_
    | refine Plan.extract rfl rfl rfl rfl rfl ?_
    | refine Plan.pick rfl rfl rfl rfl rfl ?_
    | refine Plan.lenStr rfl rfl rfl rfl Try.underlying9 ?_
    | refine Plan.lenE rfl rfl rfl rfl Try.underlying27 ?_
    | (refine Plan.ints rfl rfl rfl rfl rfl rfl ?_; (first | refine Plan.int (i64u8 _) ?_ | refine Plan.int (i64r (by omega)) ?_ | refine Plan.int (u64r (by omega)) ?_ | refine Plan.int (u8r (by omega)) ?_ | refine Plan.int (u16r (by omega)) ?_ | refine Plan.int (quoN (by omega)) ?_ | refine Plan.int (remN _ _) ?_ | refine Plan.int (u8N _) ?_ | skip))
    | refine Plan.un rfl rfl rfl rfl rfl ?_
    | refine Plan.lenB rfl rfl rfl rfl (by first | exact Sub.refl _ | exact Sub.own | exact Sub.old (fun _ h => h) | exact Sub.oldOwn (fun _ h => h) | exact Sub.nilRow | exact Sub.ownLower hB | exact Sub.nilOwn (fun _ h => Nat.le_trans hB h.size)) Try.underlying27 ?_
    | (refine Plan.convInt rfl rfl rfl rfl (by first | exact Try.underlying2 | exact Try.underlying3 | exact Try.underlying5 | exact Try.underlying21 | exact Try.underlying25 | exact Try.underlying33 | exact Try.underlying53 | exact Try.underlying89) (by first | exact Try.underlying2 | exact Try.underlying3 | exact Try.underlying5 | exact Try.underlying21 | exact Try.underlying25 | exact Try.underlying33 | exact Try.underlying53 | exact Try.underlying89) ?_; (first | refine Plan.int (i64u8 _) ?_ | refine Plan.int (i64r (by omega)) ?_ | refine Plan.int (u64r (by omega)) ?_ | refine Plan.int (u8r (by omega)) ?_ | refine Plan.int (u16r (by omega)) ?_ | refine Plan.int (quoN (by omega)) ?_ | refine Plan.int (remN _ _) ?_ | refine Plan.int (u8N _) ?_ | skip))
    | refine Plan.nilOk rfl rfl rfl rfl ?_
    | refine Plan.fieldC rfl rfl rfl rfl (by first | exact Try.underlying65 | exact Try.underlying67 | exact Try.underlying73) rfl (by kernel_rfl) (by first | exact (rfl : _ = 0) | exact (rfl : _ = 1) | exact (rfl : _ = 2) | exact (rfl : _ = 3) | exact (rfl : _ = 4) | exact (rfl : _ = 5)) ?_
    | refine Plan.loadC (key := 1000) (q := 0) rfl rfl rfl rfl rfl rfl (obj_reads1 rfl) (by first | exact Try.underlying3 | exact Try.underlying9 | exact Try.underlying27 | exact Try.underlying4 | exact Try.underlying5 | exact Try.underlying33 | exact Try.underlying25 | exact Try.underlying23) (by rfl) (by decide) ?_
    | refine Plan.loadC (key := 1000) (q := 1) rfl rfl rfl rfl rfl rfl (obj_reads1 rfl) (by first | exact Try.underlying3 | exact Try.underlying9 | exact Try.underlying27 | exact Try.underlying4 | exact Try.underlying5 | exact Try.underlying33 | exact Try.underlying25 | exact Try.underlying23) (by rfl) (by decide) ?_
    | refine Plan.loadC (key := 1000) (q := 2) rfl rfl rfl rfl rfl rfl (obj_reads1 rfl) (by first | exact Try.underlying3 | exact Try.underlying9 | exact Try.underlying27 | exact Try.underlying4 | exact Try.underlying5 | exact Try.underlying33 | exact Try.underlying25 | exact Try.underlying23) (by rfl) (by decide) ?_
    | refine Plan.eqlPtr rfl rfl rfl rfl (by kernel_rfl) ?_
    | refine Plan.neqPtr rfl rfl rfl rfl (by kernel_rfl) ?_
    | refine J.seq (J.region mixed hI (by kernel_rfl) ?_)
    | refine J.region mixed hI (by kernel_rfl) ?_
    | refine J.seq (J.seq (J.region mixed hI (by kernel_rfl) ?_))
    | refine J.condF rfl ?_
    | refine J.condT rfl ?_
    | refine J.skip ?_)
  refine Plan.int (y := ((f + kp : Nat) : Int)) (by omega) ?_
  refine Plan.sliceHi rfl rfl rfl rfl eltB rfl (by omega) ?_
  repeat (first
    | refine Plan.move rfl rfl rfl rfl ?_
    | refine Plan.assign rfl rfl rfl rfl ?_
    | refine Plan.skip rfl rfl ?_
    | refine Plan.extract rfl rfl rfl rfl rfl ?_
    | refine Plan.pick rfl rfl rfl rfl rfl ?_
    | refine Plan.lenStr rfl rfl rfl rfl Try.underlying9 ?_
    | refine Plan.lenE rfl rfl rfl rfl Try.underlying27 ?_
    | (refine Plan.ints rfl rfl rfl rfl rfl rfl ?_; (first | refine Plan.int (i64u8 _) ?_ | refine Plan.int (i64r (by omega)) ?_ | refine Plan.int (u64r (by omega)) ?_ | refine Plan.int (u8r (by omega)) ?_ | refine Plan.int (u16r (by omega)) ?_ | refine Plan.int (quoN (by omega)) ?_ | refine Plan.int (remN _ _) ?_ | refine Plan.int (u8N _) ?_ | skip))
    | refine Plan.un rfl rfl rfl rfl rfl ?_
    | refine Plan.lenB rfl rfl rfl rfl (by first | exact Sub.refl _ | exact Sub.own | exact Sub.old (fun _ h => h) | exact Sub.oldOwn (fun _ h => h) | exact Sub.nilRow | exact Sub.ownLower hB | exact Sub.nilOwn (fun _ h => Nat.le_trans hB h.size)) Try.underlying27 ?_
    | (refine Plan.convInt rfl rfl rfl rfl (by first | exact Try.underlying2 | exact Try.underlying3 | exact Try.underlying5 | exact Try.underlying21 | exact Try.underlying25 | exact Try.underlying33 | exact Try.underlying53 | exact Try.underlying89) (by first | exact Try.underlying2 | exact Try.underlying3 | exact Try.underlying5 | exact Try.underlying21 | exact Try.underlying25 | exact Try.underlying33 | exact Try.underlying53 | exact Try.underlying89) ?_; (first | refine Plan.int (i64u8 _) ?_ | refine Plan.int (i64r (by omega)) ?_ | refine Plan.int (u64r (by omega)) ?_ | refine Plan.int (u8r (by omega)) ?_ | refine Plan.int (u16r (by omega)) ?_ | refine Plan.int (quoN (by omega)) ?_ | refine Plan.int (remN _ _) ?_ | refine Plan.int (u8N _) ?_ | skip))
    | refine Plan.nilOk rfl rfl rfl rfl ?_
    | refine Plan.fieldC rfl rfl rfl rfl (by first | exact Try.underlying65 | exact Try.underlying67 | exact Try.underlying73) rfl (by kernel_rfl) (by first | exact (rfl : _ = 0) | exact (rfl : _ = 1) | exact (rfl : _ = 2) | exact (rfl : _ = 3) | exact (rfl : _ = 4) | exact (rfl : _ = 5)) ?_
    | refine Plan.loadC (key := 1000) (q := 0) rfl rfl rfl rfl rfl rfl (obj_reads1 rfl) (by first | exact Try.underlying3 | exact Try.underlying9 | exact Try.underlying27 | exact Try.underlying4 | exact Try.underlying5 | exact Try.underlying33 | exact Try.underlying25 | exact Try.underlying23) (by rfl) (by decide) ?_
    | refine Plan.loadC (key := 1000) (q := 1) rfl rfl rfl rfl rfl rfl (obj_reads1 rfl) (by first | exact Try.underlying3 | exact Try.underlying9 | exact Try.underlying27 | exact Try.underlying4 | exact Try.underlying5 | exact Try.underlying33 | exact Try.underlying25 | exact Try.underlying23) (by rfl) (by decide) ?_
    | refine Plan.loadC (key := 1000) (q := 2) rfl rfl rfl rfl rfl rfl (obj_reads1 rfl) (by first | exact Try.underlying3 | exact Try.underlying9 | exact Try.underlying27 | exact Try.underlying4 | exact Try.underlying5 | exact Try.underlying33 | exact Try.underlying25 | exact Try.underlying23) (by rfl) (by decide) ?_
    | refine Plan.eqlPtr rfl rfl rfl rfl (by kernel_rfl) ?_
    | refine Plan.neqPtr rfl rfl rfl rfl (by kernel_rfl) ?_
    | refine J.seq (J.region mixed hI (by kernel_rfl) ?_)
    | refine J.region mixed hI (by kernel_rfl) ?_
    | refine J.seq (J.seq (J.region mixed hI (by kernel_rfl) ?_))
    | refine J.condF rfl ?_
    | refine J.condT rfl ?_
    | refine J.skip ?_)
  refine Plan.storeC (key := 1000) (q := 0) rfl rfl rfl rfl rfl rfl (by simp [Value.cells, Value.oneCell']) (by kernel_rfl) rfl hA rfl (obj_pat1 (Nat.le_of_ble_eq_true rfl)) ?_
  have hbt : List.take ((f + kp) * 1) (bs l) = bs (l.take f ++ (l.drop f).take kp) := by rw [← List.take_add, Nat.mul_one]; simp [bs, List.map_take]
  refine J.convC (key := 1000) (q := 1) rfl rfl (Ent.rowCut (m := f + kp) (by omega)) ?_
  rw [hbt]
  obtain ⟨t0, ht0⟩ : ∃ t0, t0 = (l.drop f).take kp := ⟨_, rfl⟩
  have ht0l : t0.length = kp := by rw [ht0, List.length_take, List.length_drop]; omega
  have hcr : crashOf l f keep at_ turn = l.take f ++ tailOf t0 at_ turn := by unfold crashOf; rw [← hkp, ← ht0]
  have hcrl : (crashOf l f keep at_ turn).length = f + kp := by rw [hcr, List.length_append, tail_length, ht0l, List.length_take]; omega
  have hclose : ∀ B : Option Addr, Ent (allC [obj β [.slice B (f + kp) cap, .int .i64 f, .int .i64 r], rowC 5 1 B (f + kp) cap (bs (l.take f ++ tailOf t0 at_ turn))]) (diskC β (crashOf l f keep at_ turn) f r) := by
    intro B
    have h9 := disk_close (l := crashOf l f keep at_ turn) (B := B) (cap := cap) (f := f) (r := r) (β := β)
    simp only [rowB, hcrl] at h9
    rw [hcr] at h9
    rw [hcr]
    exact h9
  rw [← ht0]
  repeat (first
    | refine Plan.move rfl rfl rfl rfl ?_
    | refine Plan.assign rfl rfl rfl rfl ?_
    | refine Plan.skip rfl rfl ?_
    | refine Plan.extract rfl rfl rfl rfl rfl ?_
    | refine Plan.pick rfl rfl rfl rfl rfl ?_
    | refine Plan.lenStr rfl rfl rfl rfl Try.underlying9 ?_
    | refine Plan.lenE rfl rfl rfl rfl Try.underlying27 ?_
    | (refine Plan.ints rfl rfl rfl rfl rfl rfl ?_; (first | refine Plan.int (i64u8 _) ?_ | refine Plan.int (i64r (by omega)) ?_ | refine Plan.int (u64r (by omega)) ?_ | refine Plan.int (u8r (by omega)) ?_ | refine Plan.int (u16r (by omega)) ?_ | refine Plan.int (quoN (by omega)) ?_ | refine Plan.int (remN _ _) ?_ | refine Plan.int (u8N _) ?_ | skip))
    | refine Plan.un rfl rfl rfl rfl rfl ?_
    | refine Plan.lenB rfl rfl rfl rfl (by first | exact Sub.refl _ | exact Sub.own | exact Sub.old (fun _ h => h) | exact Sub.oldOwn (fun _ h => h) | exact Sub.nilRow | exact Sub.ownLower hB | exact Sub.nilOwn (fun _ h => Nat.le_trans hB h.size)) Try.underlying27 ?_
    | (refine Plan.convInt rfl rfl rfl rfl (by first | exact Try.underlying2 | exact Try.underlying3 | exact Try.underlying5 | exact Try.underlying21 | exact Try.underlying25 | exact Try.underlying33 | exact Try.underlying53 | exact Try.underlying89) (by first | exact Try.underlying2 | exact Try.underlying3 | exact Try.underlying5 | exact Try.underlying21 | exact Try.underlying25 | exact Try.underlying33 | exact Try.underlying53 | exact Try.underlying89) ?_; (first | refine Plan.int (i64u8 _) ?_ | refine Plan.int (i64r (by omega)) ?_ | refine Plan.int (u64r (by omega)) ?_ | refine Plan.int (u8r (by omega)) ?_ | refine Plan.int (u16r (by omega)) ?_ | refine Plan.int (quoN (by omega)) ?_ | refine Plan.int (remN _ _) ?_ | refine Plan.int (u8N _) ?_ | skip))
    | refine Plan.nilOk rfl rfl rfl rfl ?_
    | refine Plan.fieldC rfl rfl rfl rfl (by first | exact Try.underlying65 | exact Try.underlying67 | exact Try.underlying73) rfl (by kernel_rfl) (by first | exact (rfl : _ = 0) | exact (rfl : _ = 1) | exact (rfl : _ = 2) | exact (rfl : _ = 3) | exact (rfl : _ = 4) | exact (rfl : _ = 5)) ?_
    | refine Plan.loadC (key := 1000) (q := 0) rfl rfl rfl rfl rfl rfl (obj_reads1 rfl) (by first | exact Try.underlying3 | exact Try.underlying9 | exact Try.underlying27 | exact Try.underlying4 | exact Try.underlying5 | exact Try.underlying33 | exact Try.underlying25 | exact Try.underlying23) (by rfl) (by decide) ?_
    | refine Plan.loadC (key := 1000) (q := 1) rfl rfl rfl rfl rfl rfl (obj_reads1 rfl) (by first | exact Try.underlying3 | exact Try.underlying9 | exact Try.underlying27 | exact Try.underlying4 | exact Try.underlying5 | exact Try.underlying33 | exact Try.underlying25 | exact Try.underlying23) (by rfl) (by decide) ?_
    | refine Plan.loadC (key := 1000) (q := 2) rfl rfl rfl rfl rfl rfl (obj_reads1 rfl) (by first | exact Try.underlying3 | exact Try.underlying9 | exact Try.underlying27 | exact Try.underlying4 | exact Try.underlying5 | exact Try.underlying33 | exact Try.underlying25 | exact Try.underlying23) (by rfl) (by decide) ?_
    | refine Plan.eqlPtr rfl rfl rfl rfl (by kernel_rfl) ?_
    | refine Plan.neqPtr rfl rfl rfl rfl (by kernel_rfl) ?_
    | refine J.seq (J.region mixed hI (by kernel_rfl) ?_)
    | refine J.region mixed hI (by kernel_rfl) ?_
    | refine J.seq (J.seq (J.region mixed hI (by kernel_rfl) ?_))
    | refine J.condF rfl ?_
    | refine J.condT rfl ?_
    | refine J.skip ?_)
  by_cases h2 : 2 ≤ kp
  · rcases hB with ⟨_, _, h0⟩ | ⟨g, rfl⟩
    · omega
    refine Plan.sliceLo rfl rfl rfl rfl eltB rfl (by omega) (by omega) (by omega) ?_
    repeat (first
    | refine Plan.move rfl rfl rfl rfl ?_
    | refine Plan.assign rfl rfl rfl rfl ?_
    | refine Plan.skip rfl rfl ?_
    | refine Plan.extract rfl rfl rfl rfl rfl ?_
    | refine Plan.pick rfl rfl rfl rfl rfl ?_
    | refine Plan.lenStr rfl rfl rfl rfl Try.underlying9 ?_
    | refine Plan.lenE rfl rfl rfl rfl Try.underlying27 ?_
    | (refine Plan.ints rfl rfl rfl rfl rfl rfl ?_; (first | refine Plan.int (i64u8 _) ?_ | refine Plan.int (i64r (by omega)) ?_ | refine Plan.int (u64r (by omega)) ?_ | refine Plan.int (u8r (by omega)) ?_ | refine Plan.int (u16r (by omega)) ?_ | refine Plan.int (quoN (by omega)) ?_ | refine Plan.int (remN _ _) ?_ | refine Plan.int (u8N _) ?_ | skip))
    | refine Plan.un rfl rfl rfl rfl rfl ?_
    | refine Plan.lenB rfl rfl rfl rfl (by first | exact Sub.refl _ | exact Sub.own | exact Sub.old (fun _ h => h) | exact Sub.oldOwn (fun _ h => h) | exact Sub.nilRow | exact Sub.ownLower hB | exact Sub.nilOwn (fun _ h => Nat.le_trans hB h.size)) Try.underlying27 ?_
    | (refine Plan.convInt rfl rfl rfl rfl (by first | exact Try.underlying2 | exact Try.underlying3 | exact Try.underlying5 | exact Try.underlying21 | exact Try.underlying25 | exact Try.underlying33 | exact Try.underlying53 | exact Try.underlying89) (by first | exact Try.underlying2 | exact Try.underlying3 | exact Try.underlying5 | exact Try.underlying21 | exact Try.underlying25 | exact Try.underlying33 | exact Try.underlying53 | exact Try.underlying89) ?_; (first | refine Plan.int (i64u8 _) ?_ | refine Plan.int (i64r (by omega)) ?_ | refine Plan.int (u64r (by omega)) ?_ | refine Plan.int (u8r (by omega)) ?_ | refine Plan.int (u16r (by omega)) ?_ | refine Plan.int (quoN (by omega)) ?_ | refine Plan.int (remN _ _) ?_ | refine Plan.int (u8N _) ?_ | skip))
    | refine Plan.nilOk rfl rfl rfl rfl ?_
    | refine Plan.fieldC rfl rfl rfl rfl (by first | exact Try.underlying65 | exact Try.underlying67 | exact Try.underlying73) rfl (by kernel_rfl) (by first | exact (rfl : _ = 0) | exact (rfl : _ = 1) | exact (rfl : _ = 2) | exact (rfl : _ = 3) | exact (rfl : _ = 4) | exact (rfl : _ = 5)) ?_
    | refine Plan.loadC (key := 1000) (q := 0) rfl rfl rfl rfl rfl rfl (obj_reads1 rfl) (by first | exact Try.underlying3 | exact Try.underlying9 | exact Try.underlying27 | exact Try.underlying4 | exact Try.underlying5 | exact Try.underlying33 | exact Try.underlying25 | exact Try.underlying23) (by rfl) (by decide) ?_
    | refine Plan.loadC (key := 1000) (q := 1) rfl rfl rfl rfl rfl rfl (obj_reads1 rfl) (by first | exact Try.underlying3 | exact Try.underlying9 | exact Try.underlying27 | exact Try.underlying4 | exact Try.underlying5 | exact Try.underlying33 | exact Try.underlying25 | exact Try.underlying23) (by rfl) (by decide) ?_
    | refine Plan.loadC (key := 1000) (q := 2) rfl rfl rfl rfl rfl rfl (obj_reads1 rfl) (by first | exact Try.underlying3 | exact Try.underlying9 | exact Try.underlying27 | exact Try.underlying4 | exact Try.underlying5 | exact Try.underlying33 | exact Try.underlying25 | exact Try.underlying23) (by rfl) (by decide) ?_
    | refine Plan.eqlPtr rfl rfl rfl rfl (by kernel_rfl) ?_
    | refine Plan.neqPtr rfl rfl rfl rfl (by kernel_rfl) ?_
    | refine J.seq (J.region mixed hI (by kernel_rfl) ?_)
    | refine J.region mixed hI (by kernel_rfl) ?_
    | refine J.seq (J.seq (J.region mixed hI (by kernel_rfl) ?_))
    | refine J.condF rfl ?_
    | refine J.condT rfl ?_
    | refine J.skip ?_)
    refine J.condD rfl (fun h3 => ?_) (fun h3 => ?_)
    rotate_left
    · omega
    · repeat (first
    | refine Plan.move rfl rfl rfl rfl ?_
    | refine Plan.assign rfl rfl rfl rfl ?_
    | refine Plan.skip rfl rfl ?_
    | refine Plan.extract rfl rfl rfl rfl rfl ?_
    | refine Plan.pick rfl rfl rfl rfl rfl ?_
    | refine Plan.lenStr rfl rfl rfl rfl Try.underlying9 ?_
    | refine Plan.lenE rfl rfl rfl rfl Try.underlying27 ?_
    | (refine Plan.ints rfl rfl rfl rfl rfl rfl ?_; (first | refine Plan.int (i64u8 _) ?_ | refine Plan.int (i64r (by omega)) ?_ | refine Plan.int (u64r (by omega)) ?_ | refine Plan.int (u8r (by omega)) ?_ | refine Plan.int (u16r (by omega)) ?_ | refine Plan.int (quoN (by omega)) ?_ | refine Plan.int (remN _ _) ?_ | refine Plan.int (u8N _) ?_ | skip))
    | refine Plan.un rfl rfl rfl rfl rfl ?_
    | refine Plan.lenB rfl rfl rfl rfl (by first | exact Sub.refl _ | exact Sub.own | exact Sub.old (fun _ h => h) | exact Sub.oldOwn (fun _ h => h) | exact Sub.nilRow | exact Sub.ownLower hB | exact Sub.nilOwn (fun _ h => Nat.le_trans hB h.size)) Try.underlying27 ?_
    | (refine Plan.convInt rfl rfl rfl rfl (by first | exact Try.underlying2 | exact Try.underlying3 | exact Try.underlying5 | exact Try.underlying21 | exact Try.underlying25 | exact Try.underlying33 | exact Try.underlying53 | exact Try.underlying89) (by first | exact Try.underlying2 | exact Try.underlying3 | exact Try.underlying5 | exact Try.underlying21 | exact Try.underlying25 | exact Try.underlying33 | exact Try.underlying53 | exact Try.underlying89) ?_; (first | refine Plan.int (i64u8 _) ?_ | refine Plan.int (i64r (by omega)) ?_ | refine Plan.int (u64r (by omega)) ?_ | refine Plan.int (u8r (by omega)) ?_ | refine Plan.int (u16r (by omega)) ?_ | refine Plan.int (quoN (by omega)) ?_ | refine Plan.int (remN _ _) ?_ | refine Plan.int (u8N _) ?_ | skip))
    | refine Plan.nilOk rfl rfl rfl rfl ?_
    | refine Plan.fieldC rfl rfl rfl rfl (by first | exact Try.underlying65 | exact Try.underlying67 | exact Try.underlying73) rfl (by kernel_rfl) (by first | exact (rfl : _ = 0) | exact (rfl : _ = 1) | exact (rfl : _ = 2) | exact (rfl : _ = 3) | exact (rfl : _ = 4) | exact (rfl : _ = 5)) ?_
    | refine Plan.loadC (key := 1000) (q := 0) rfl rfl rfl rfl rfl rfl (obj_reads1 rfl) (by first | exact Try.underlying3 | exact Try.underlying9 | exact Try.underlying27 | exact Try.underlying4 | exact Try.underlying5 | exact Try.underlying33 | exact Try.underlying25 | exact Try.underlying23) (by rfl) (by decide) ?_
    | refine Plan.loadC (key := 1000) (q := 1) rfl rfl rfl rfl rfl rfl (obj_reads1 rfl) (by first | exact Try.underlying3 | exact Try.underlying9 | exact Try.underlying27 | exact Try.underlying4 | exact Try.underlying5 | exact Try.underlying33 | exact Try.underlying25 | exact Try.underlying23) (by rfl) (by decide) ?_
    | refine Plan.loadC (key := 1000) (q := 2) rfl rfl rfl rfl rfl rfl (obj_reads1 rfl) (by first | exact Try.underlying3 | exact Try.underlying9 | exact Try.underlying27 | exact Try.underlying4 | exact Try.underlying5 | exact Try.underlying33 | exact Try.underlying25 | exact Try.underlying23) (by rfl) (by decide) ?_
    | refine Plan.eqlPtr rfl rfl rfl rfl (by kernel_rfl) ?_
    | refine Plan.neqPtr rfl rfl rfl rfl (by kernel_rfl) ?_
    | refine J.seq (J.region mixed hI (by kernel_rfl) ?_)
    | refine J.region mixed hI (by kernel_rfl) ?_
    | refine J.seq (J.seq (J.region mixed hI (by kernel_rfl) ?_))
    | refine J.condF rfl ?_
    | refine J.condT rfl ?_
    | refine J.skip ?_)
      refine Plan.call (B := 0) rfl rfl rfl (disk_rest at_ (8 * (kp : Int) - 15) (by omega)) Try.func43 rfl rfl (fun _ _ => Nat.zero_le _) (by repeat (first | exact Opnds.nil | refine Opnds.cons rfl (by first | exact Sub.refl _ | exact Sub.own | exact Sub.old (fun _ h => h) | exact Sub.oldOwn (fun _ h => h) | exact Sub.nilRow) ?_)) ?_
      obtain ⟨p, hp⟩ : ∃ p : Nat, (p : Int) = at_ % (8 * (kp : Int) - 15) := ⟨(at_ % (8 * (kp : Int) - 15)).toNat, Int.toNat_of_nonneg (Int.emod_nonneg _ (by omega))⟩
      have hpl : p < 8 * kp - 15 := by
        have := Int.emod_lt_of_pos at_ (show (0 : Int) < 8 * (kp : Int) - 15 by omega)
        omega
      rw [← hp]
      obtain ⟨m, hm⟩ : ∃ m : Nat, (m : Int) = turn % 65536 := ⟨(turn % 65536).toNat, Int.toNat_of_nonneg (Int.emod_nonneg _ (by omega))⟩
      have hml : m < 65536 := by
        have := Int.emod_lt_of_pos turn (show (0 : Int) < 65536 by omega)
        omega
      have htail : tailOf t0 at_ turn = flips t0 p m 16 := by
        unfold tailOf
        rw [ht0l, if_pos h2, show ((8 * kp : Nat) : Int) - 15 = 8 * (kp : Int) - 15 by omega, ← hp, ← hm]
        rfl
      repeat (first
    | refine Plan.move rfl rfl rfl rfl ?_
    | refine Plan.assign rfl rfl rfl rfl ?_
    | refine Plan.skip rfl rfl ?_
    | refine Plan.extract rfl rfl rfl rfl rfl ?_
    | refine Plan.pick rfl rfl rfl rfl rfl ?_
    | refine Plan.lenStr rfl rfl rfl rfl Try.underlying9 ?_
    | refine Plan.lenE rfl rfl rfl rfl Try.underlying27 ?_
    | (refine Plan.ints rfl rfl rfl rfl rfl rfl ?_; (first | refine Plan.int (i64u8 _) ?_ | refine Plan.int (i64r (by omega)) ?_ | refine Plan.int (u64r (by omega)) ?_ | refine Plan.int (u8r (by omega)) ?_ | refine Plan.int (u16r (by omega)) ?_ | refine Plan.int (quoN (by omega)) ?_ | refine Plan.int (remN _ _) ?_ | refine Plan.int (u8N _) ?_ | skip))
    | refine Plan.un rfl rfl rfl rfl rfl ?_
    | refine Plan.lenB rfl rfl rfl rfl (by first | exact Sub.refl _ | exact Sub.own | exact Sub.old (fun _ h => h) | exact Sub.oldOwn (fun _ h => h) | exact Sub.nilRow | exact Sub.ownLower hB | exact Sub.nilOwn (fun _ h => Nat.le_trans hB h.size)) Try.underlying27 ?_
    | (refine Plan.convInt rfl rfl rfl rfl (by first | exact Try.underlying2 | exact Try.underlying3 | exact Try.underlying5 | exact Try.underlying21 | exact Try.underlying25 | exact Try.underlying33 | exact Try.underlying53 | exact Try.underlying89) (by first | exact Try.underlying2 | exact Try.underlying3 | exact Try.underlying5 | exact Try.underlying21 | exact Try.underlying25 | exact Try.underlying33 | exact Try.underlying53 | exact Try.underlying89) ?_; (first | refine Plan.int (i64u8 _) ?_ | refine Plan.int (i64r (by omega)) ?_ | refine Plan.int (u64r (by omega)) ?_ | refine Plan.int (u8r (by omega)) ?_ | refine Plan.int (u16r (by omega)) ?_ | refine Plan.int (quoN (by omega)) ?_ | refine Plan.int (remN _ _) ?_ | refine Plan.int (u8N _) ?_ | skip))
    | refine Plan.nilOk rfl rfl rfl rfl ?_
    | refine Plan.fieldC rfl rfl rfl rfl (by first | exact Try.underlying65 | exact Try.underlying67 | exact Try.underlying73) rfl (by kernel_rfl) (by first | exact (rfl : _ = 0) | exact (rfl : _ = 1) | exact (rfl : _ = 2) | exact (rfl : _ = 3) | exact (rfl : _ = 4) | exact (rfl : _ = 5)) ?_
    | refine Plan.loadC (key := 1000) (q := 0) rfl rfl rfl rfl rfl rfl (obj_reads1 rfl) (by first | exact Try.underlying3 | exact Try.underlying9 | exact Try.underlying27 | exact Try.underlying4 | exact Try.underlying5 | exact Try.underlying33 | exact Try.underlying25 | exact Try.underlying23) (by rfl) (by decide) ?_
    | refine Plan.loadC (key := 1000) (q := 1) rfl rfl rfl rfl rfl rfl (obj_reads1 rfl) (by first | exact Try.underlying3 | exact Try.underlying9 | exact Try.underlying27 | exact Try.underlying4 | exact Try.underlying5 | exact Try.underlying33 | exact Try.underlying25 | exact Try.underlying23) (by rfl) (by decide) ?_
    | refine Plan.loadC (key := 1000) (q := 2) rfl rfl rfl rfl rfl rfl (obj_reads1 rfl) (by first | exact Try.underlying3 | exact Try.underlying9 | exact Try.underlying27 | exact Try.underlying4 | exact Try.underlying5 | exact Try.underlying33 | exact Try.underlying25 | exact Try.underlying23) (by rfl) (by decide) ?_
    | refine Plan.eqlPtr rfl rfl rfl rfl (by kernel_rfl) ?_
    | refine Plan.neqPtr rfl rfl rfl rfl (by kernel_rfl) ?_
    | refine J.seq (J.region mixed hI (by kernel_rfl) ?_)
    | refine J.region mixed hI (by kernel_rfl) ?_
    | refine J.seq (J.seq (J.region mixed hI (by kernel_rfl) ?_))
    | refine J.condF rfl ?_
    | refine J.condT rfl ?_
    | refine J.skip ?_)
      refine J.block (J.loop (crashE β g cap f kp r p m turn (fun b => F b ∨ w0.heap.size ≤ b) (l.take f) t0) (fun i => i ≤ 16) (fun i => 16 - i) 0 (Nat.zero_le _) ?_ ?_)
      · repeat (first | exact Weak.nil | refine Weak.cons rfl (Sub.refl _) ?_)
      intro i hi
      have hfl := flips_length t0 p m i
      repeat (first
    | refine Plan.move rfl rfl rfl rfl ?_
    | refine Plan.assign rfl rfl rfl rfl ?_
    | refine Plan.skip rfl rfl ?_
    | refine Plan.extract rfl rfl rfl rfl rfl ?_
    | refine Plan.pick rfl rfl rfl rfl rfl ?_
    | refine Plan.lenStr rfl rfl rfl rfl Try.underlying9 ?_
    | refine Plan.lenE rfl rfl rfl rfl Try.underlying27 ?_
    | (refine Plan.ints rfl rfl rfl rfl rfl rfl ?_; (first | refine Plan.int (i64u8 _) ?_ | refine Plan.int (i64r (by omega)) ?_ | refine Plan.int (u64r (by omega)) ?_ | refine Plan.int (u8r (by omega)) ?_ | refine Plan.int (u16r (by omega)) ?_ | refine Plan.int (quoN (by omega)) ?_ | refine Plan.int (remN _ _) ?_ | refine Plan.int (u8N _) ?_ | skip))
    | refine Plan.un rfl rfl rfl rfl rfl ?_
    | refine Plan.lenB rfl rfl rfl rfl (by first | exact Sub.refl _ | exact Sub.own | exact Sub.old (fun _ h => h) | exact Sub.oldOwn (fun _ h => h) | exact Sub.nilRow | exact Sub.ownLower hB | exact Sub.nilOwn (fun _ h => Nat.le_trans hB h.size)) Try.underlying27 ?_
    | (refine Plan.convInt rfl rfl rfl rfl (by first | exact Try.underlying2 | exact Try.underlying3 | exact Try.underlying5 | exact Try.underlying21 | exact Try.underlying25 | exact Try.underlying33 | exact Try.underlying53 | exact Try.underlying89) (by first | exact Try.underlying2 | exact Try.underlying3 | exact Try.underlying5 | exact Try.underlying21 | exact Try.underlying25 | exact Try.underlying33 | exact Try.underlying53 | exact Try.underlying89) ?_; (first | refine Plan.int (i64u8 _) ?_ | refine Plan.int (i64r (by omega)) ?_ | refine Plan.int (u64r (by omega)) ?_ | refine Plan.int (u8r (by omega)) ?_ | refine Plan.int (u16r (by omega)) ?_ | refine Plan.int (quoN (by omega)) ?_ | refine Plan.int (remN _ _) ?_ | refine Plan.int (u8N _) ?_ | skip))
    | refine Plan.nilOk rfl rfl rfl rfl ?_
    | refine Plan.fieldC rfl rfl rfl rfl (by first | exact Try.underlying65 | exact Try.underlying67 | exact Try.underlying73) rfl (by kernel_rfl) (by first | exact (rfl : _ = 0) | exact (rfl : _ = 1) | exact (rfl : _ = 2) | exact (rfl : _ = 3) | exact (rfl : _ = 4) | exact (rfl : _ = 5)) ?_
    | refine Plan.loadC (key := 1000) (q := 0) rfl rfl rfl rfl rfl rfl (obj_reads1 rfl) (by first | exact Try.underlying3 | exact Try.underlying9 | exact Try.underlying27 | exact Try.underlying4 | exact Try.underlying5 | exact Try.underlying33 | exact Try.underlying25 | exact Try.underlying23) (by rfl) (by decide) ?_
    | refine Plan.loadC (key := 1000) (q := 1) rfl rfl rfl rfl rfl rfl (obj_reads1 rfl) (by first | exact Try.underlying3 | exact Try.underlying9 | exact Try.underlying27 | exact Try.underlying4 | exact Try.underlying5 | exact Try.underlying33 | exact Try.underlying25 | exact Try.underlying23) (by rfl) (by decide) ?_
    | refine Plan.loadC (key := 1000) (q := 2) rfl rfl rfl rfl rfl rfl (obj_reads1 rfl) (by first | exact Try.underlying3 | exact Try.underlying9 | exact Try.underlying27 | exact Try.underlying4 | exact Try.underlying5 | exact Try.underlying33 | exact Try.underlying25 | exact Try.underlying23) (by rfl) (by decide) ?_
    | refine Plan.eqlPtr rfl rfl rfl rfl (by kernel_rfl) ?_
    | refine Plan.neqPtr rfl rfl rfl rfl (by kernel_rfl) ?_
    | refine J.seq (J.region mixed hI (by kernel_rfl) ?_)
    | refine J.region mixed hI (by kernel_rfl) ?_
    | refine J.seq (J.seq (J.region mixed hI (by kernel_rfl) ?_))
    | refine J.condF rfl ?_
    | refine J.condT rfl ?_
    | refine J.skip ?_)
      refine J.seq (J.condD rfl (fun hlt => ?_) (fun hlt => ?_))
      · have hlt' : i < 16 := by omega
        repeat (first
    | refine Plan.move rfl rfl rfl rfl ?_
    | refine Plan.assign rfl rfl rfl rfl ?_
    | refine Plan.skip rfl rfl ?_
    | refine Plan.extract rfl rfl rfl rfl rfl ?_
    | refine Plan.pick rfl rfl rfl rfl rfl ?_
    | refine Plan.lenStr rfl rfl rfl rfl Try.underlying9 ?_
    | refine Plan.lenE rfl rfl rfl rfl Try.underlying27 ?_
    | (refine Plan.ints rfl rfl rfl rfl rfl rfl ?_; (first | refine Plan.int (i64u8 _) ?_ | refine Plan.int (i64r (by omega)) ?_ | refine Plan.int (u64r (by omega)) ?_ | refine Plan.int (u8r (by omega)) ?_ | refine Plan.int (u16r (by omega)) ?_ | refine Plan.int (quoN (by omega)) ?_ | refine Plan.int (remN _ _) ?_ | refine Plan.int (u8N _) ?_ | skip))
    | refine Plan.un rfl rfl rfl rfl rfl ?_
    | refine Plan.lenB rfl rfl rfl rfl (by first | exact Sub.refl _ | exact Sub.own | exact Sub.old (fun _ h => h) | exact Sub.oldOwn (fun _ h => h) | exact Sub.nilRow | exact Sub.ownLower hB | exact Sub.nilOwn (fun _ h => Nat.le_trans hB h.size)) Try.underlying27 ?_
    | (refine Plan.convInt rfl rfl rfl rfl (by first | exact Try.underlying2 | exact Try.underlying3 | exact Try.underlying5 | exact Try.underlying21 | exact Try.underlying25 | exact Try.underlying33 | exact Try.underlying53 | exact Try.underlying89) (by first | exact Try.underlying2 | exact Try.underlying3 | exact Try.underlying5 | exact Try.underlying21 | exact Try.underlying25 | exact Try.underlying33 | exact Try.underlying53 | exact Try.underlying89) ?_; (first | refine Plan.int (i64u8 _) ?_ | refine Plan.int (i64r (by omega)) ?_ | refine Plan.int (u64r (by omega)) ?_ | refine Plan.int (u8r (by omega)) ?_ | refine Plan.int (u16r (by omega)) ?_ | refine Plan.int (quoN (by omega)) ?_ | refine Plan.int (remN _ _) ?_ | refine Plan.int (u8N _) ?_ | skip))
    | refine Plan.nilOk rfl rfl rfl rfl ?_
    | refine Plan.fieldC rfl rfl rfl rfl (by first | exact Try.underlying65 | exact Try.underlying67 | exact Try.underlying73) rfl (by kernel_rfl) (by first | exact (rfl : _ = 0) | exact (rfl : _ = 1) | exact (rfl : _ = 2) | exact (rfl : _ = 3) | exact (rfl : _ = 4) | exact (rfl : _ = 5)) ?_
    | refine Plan.loadC (key := 1000) (q := 0) rfl rfl rfl rfl rfl rfl (obj_reads1 rfl) (by first | exact Try.underlying3 | exact Try.underlying9 | exact Try.underlying27 | exact Try.underlying4 | exact Try.underlying5 | exact Try.underlying33 | exact Try.underlying25 | exact Try.underlying23) (by rfl) (by decide) ?_
    | refine Plan.loadC (key := 1000) (q := 1) rfl rfl rfl rfl rfl rfl (obj_reads1 rfl) (by first | exact Try.underlying3 | exact Try.underlying9 | exact Try.underlying27 | exact Try.underlying4 | exact Try.underlying5 | exact Try.underlying33 | exact Try.underlying25 | exact Try.underlying23) (by rfl) (by decide) ?_
    | refine Plan.loadC (key := 1000) (q := 2) rfl rfl rfl rfl rfl rfl (obj_reads1 rfl) (by first | exact Try.underlying3 | exact Try.underlying9 | exact Try.underlying27 | exact Try.underlying4 | exact Try.underlying5 | exact Try.underlying33 | exact Try.underlying25 | exact Try.underlying23) (by rfl) (by decide) ?_
    | refine Plan.eqlPtr rfl rfl rfl rfl (by kernel_rfl) ?_
    | refine Plan.neqPtr rfl rfl rfl rfl (by kernel_rfl) ?_
    | refine J.seq (J.region mixed hI (by kernel_rfl) ?_)
    | refine J.region mixed hI (by kernel_rfl) ?_
    | refine J.seq (J.seq (J.region mixed hI (by kernel_rfl) ?_))
    | refine J.condF rfl ?_
    | refine J.condT rfl ?_
    | refine J.skip ?_)
        refine J.seq (J.block ?_)
        repeat (first
    | refine Plan.move rfl rfl rfl rfl ?_
    | refine Plan.assign rfl rfl rfl rfl ?_
    | refine Plan.skip rfl rfl ?_
    | refine Plan.extract rfl rfl rfl rfl rfl ?_
    | refine Plan.pick rfl rfl rfl rfl rfl ?_
    | refine Plan.lenStr rfl rfl rfl rfl Try.underlying9 ?_
    | refine Plan.lenE rfl rfl rfl rfl Try.underlying27 ?_
    | (refine Plan.ints rfl rfl rfl rfl rfl rfl ?_; (first | refine Plan.int (i64u8 _) ?_ | refine Plan.int (i64r (by omega)) ?_ | refine Plan.int (u64r (by omega)) ?_ | refine Plan.int (u8r (by omega)) ?_ | refine Plan.int (u16r (by omega)) ?_ | refine Plan.int (quoN (by omega)) ?_ | refine Plan.int (remN _ _) ?_ | refine Plan.int (u8N _) ?_ | skip))
    | refine Plan.un rfl rfl rfl rfl rfl ?_
    | refine Plan.lenB rfl rfl rfl rfl (by first | exact Sub.refl _ | exact Sub.own | exact Sub.old (fun _ h => h) | exact Sub.oldOwn (fun _ h => h) | exact Sub.nilRow | exact Sub.ownLower hB | exact Sub.nilOwn (fun _ h => Nat.le_trans hB h.size)) Try.underlying27 ?_
    | (refine Plan.convInt rfl rfl rfl rfl (by first | exact Try.underlying2 | exact Try.underlying3 | exact Try.underlying5 | exact Try.underlying21 | exact Try.underlying25 | exact Try.underlying33 | exact Try.underlying53 | exact Try.underlying89) (by first | exact Try.underlying2 | exact Try.underlying3 | exact Try.underlying5 | exact Try.underlying21 | exact Try.underlying25 | exact Try.underlying33 | exact Try.underlying53 | exact Try.underlying89) ?_; (first | refine Plan.int (i64u8 _) ?_ | refine Plan.int (i64r (by omega)) ?_ | refine Plan.int (u64r (by omega)) ?_ | refine Plan.int (u8r (by omega)) ?_ | refine Plan.int (u16r (by omega)) ?_ | refine Plan.int (quoN (by omega)) ?_ | refine Plan.int (remN _ _) ?_ | refine Plan.int (u8N _) ?_ | skip))
    | refine Plan.nilOk rfl rfl rfl rfl ?_
    | refine Plan.fieldC rfl rfl rfl rfl (by first | exact Try.underlying65 | exact Try.underlying67 | exact Try.underlying73) rfl (by kernel_rfl) (by first | exact (rfl : _ = 0) | exact (rfl : _ = 1) | exact (rfl : _ = 2) | exact (rfl : _ = 3) | exact (rfl : _ = 4) | exact (rfl : _ = 5)) ?_
    | refine Plan.loadC (key := 1000) (q := 0) rfl rfl rfl rfl rfl rfl (obj_reads1 rfl) (by first | exact Try.underlying3 | exact Try.underlying9 | exact Try.underlying27 | exact Try.underlying4 | exact Try.underlying5 | exact Try.underlying33 | exact Try.underlying25 | exact Try.underlying23) (by rfl) (by decide) ?_
    | refine Plan.loadC (key := 1000) (q := 1) rfl rfl rfl rfl rfl rfl (obj_reads1 rfl) (by first | exact Try.underlying3 | exact Try.underlying9 | exact Try.underlying27 | exact Try.underlying4 | exact Try.underlying5 | exact Try.underlying33 | exact Try.underlying25 | exact Try.underlying23) (by rfl) (by decide) ?_
    | refine Plan.loadC (key := 1000) (q := 2) rfl rfl rfl rfl rfl rfl (obj_reads1 rfl) (by first | exact Try.underlying3 | exact Try.underlying9 | exact Try.underlying27 | exact Try.underlying4 | exact Try.underlying5 | exact Try.underlying33 | exact Try.underlying25 | exact Try.underlying23) (by rfl) (by decide) ?_
    | refine Plan.eqlPtr rfl rfl rfl rfl (by kernel_rfl) ?_
    | refine Plan.neqPtr rfl rfl rfl rfl (by kernel_rfl) ?_
    | refine J.seq (J.region mixed hI (by kernel_rfl) ?_)
    | refine J.region mixed hI (by kernel_rfl) ?_
    | refine J.seq (J.seq (J.region mixed hI (by kernel_rfl) ?_))
    | refine J.condF rfl ?_
    | refine J.condT rfl ?_
    | refine J.skip ?_)
        refine Plan.call (B := 0) rfl rfl rfl (disk_rest turn 65536 (by omega)) Try.func43 rfl rfl (fun _ _ => Nat.zero_le _) (by repeat (first | exact Opnds.nil | refine Opnds.cons rfl (by first | exact Sub.refl _ | exact Sub.own | exact Sub.old (fun _ h => h) | exact Sub.oldOwn (fun _ h => h) | exact Sub.nilRow) ?_)) ?_
        rw [← hm]
        repeat (first
    | refine Plan.move rfl rfl rfl rfl ?_
    | refine Plan.assign rfl rfl rfl rfl ?_
    | refine Plan.skip rfl rfl ?_
    | refine Plan.extract rfl rfl rfl rfl rfl ?_
    | refine Plan.pick rfl rfl rfl rfl rfl ?_
    | refine Plan.lenStr rfl rfl rfl rfl Try.underlying9 ?_
    | refine Plan.lenE rfl rfl rfl rfl Try.underlying27 ?_
    | (refine Plan.ints rfl rfl rfl rfl rfl rfl ?_; (first | refine Plan.int (i64u8 _) ?_ | refine Plan.int (i64r (by omega)) ?_ | refine Plan.int (u64r (by omega)) ?_ | refine Plan.int (u8r (by omega)) ?_ | refine Plan.int (u16r (by omega)) ?_ | refine Plan.int (quoN (by omega)) ?_ | refine Plan.int (remN _ _) ?_ | refine Plan.int (u8N _) ?_ | skip))
    | refine Plan.un rfl rfl rfl rfl rfl ?_
    | refine Plan.lenB rfl rfl rfl rfl (by first | exact Sub.refl _ | exact Sub.own | exact Sub.old (fun _ h => h) | exact Sub.oldOwn (fun _ h => h) | exact Sub.nilRow | exact Sub.ownLower hB | exact Sub.nilOwn (fun _ h => Nat.le_trans hB h.size)) Try.underlying27 ?_
    | (refine Plan.convInt rfl rfl rfl rfl (by first | exact Try.underlying2 | exact Try.underlying3 | exact Try.underlying5 | exact Try.underlying21 | exact Try.underlying25 | exact Try.underlying33 | exact Try.underlying53 | exact Try.underlying89) (by first | exact Try.underlying2 | exact Try.underlying3 | exact Try.underlying5 | exact Try.underlying21 | exact Try.underlying25 | exact Try.underlying33 | exact Try.underlying53 | exact Try.underlying89) ?_; (first | refine Plan.int (i64u8 _) ?_ | refine Plan.int (i64r (by omega)) ?_ | refine Plan.int (u64r (by omega)) ?_ | refine Plan.int (u8r (by omega)) ?_ | refine Plan.int (u16r (by omega)) ?_ | refine Plan.int (quoN (by omega)) ?_ | refine Plan.int (remN _ _) ?_ | refine Plan.int (u8N _) ?_ | skip))
    | refine Plan.nilOk rfl rfl rfl rfl ?_
    | refine Plan.fieldC rfl rfl rfl rfl (by first | exact Try.underlying65 | exact Try.underlying67 | exact Try.underlying73) rfl (by kernel_rfl) (by first | exact (rfl : _ = 0) | exact (rfl : _ = 1) | exact (rfl : _ = 2) | exact (rfl : _ = 3) | exact (rfl : _ = 4) | exact (rfl : _ = 5)) ?_
    | refine Plan.loadC (key := 1000) (q := 0) rfl rfl rfl rfl rfl rfl (obj_reads1 rfl) (by first | exact Try.underlying3 | exact Try.underlying9 | exact Try.underlying27 | exact Try.underlying4 | exact Try.underlying5 | exact Try.underlying33 | exact Try.underlying25 | exact Try.underlying23) (by rfl) (by decide) ?_
    | refine Plan.loadC (key := 1000) (q := 1) rfl rfl rfl rfl rfl rfl (obj_reads1 rfl) (by first | exact Try.underlying3 | exact Try.underlying9 | exact Try.underlying27 | exact Try.underlying4 | exact Try.underlying5 | exact Try.underlying33 | exact Try.underlying25 | exact Try.underlying23) (by rfl) (by decide) ?_
    | refine Plan.loadC (key := 1000) (q := 2) rfl rfl rfl rfl rfl rfl (obj_reads1 rfl) (by first | exact Try.underlying3 | exact Try.underlying9 | exact Try.underlying27 | exact Try.underlying4 | exact Try.underlying5 | exact Try.underlying33 | exact Try.underlying25 | exact Try.underlying23) (by rfl) (by decide) ?_
    | refine Plan.eqlPtr rfl rfl rfl rfl (by kernel_rfl) ?_
    | refine Plan.neqPtr rfl rfl rfl rfl (by kernel_rfl) ?_
    | refine J.seq (J.region mixed hI (by kernel_rfl) ?_)
    | refine J.region mixed hI (by kernel_rfl) ?_
    | refine J.seq (J.seq (J.region mixed hI (by kernel_rfl) ?_))
    | refine J.condF rfl ?_
    | refine J.condT rfl ?_
    | refine J.skip ?_)
        refine Plan.int (y := ((15 - i : Nat) : Int)) (by omega) ?_
        refine Plan.shrN rfl rfl rfl rfl rfl (by show 15 - i ≤ 64; omega) ?_
        refine Plan.ints rfl rfl rfl rfl rfl rfl ?_
        refine Plan.int (and1i _ (Nat.lt_of_le_of_lt (Nat.div_le_self _ _) hml)) ?_
        repeat (first
    | refine Plan.move rfl rfl rfl rfl ?_
    | refine Plan.assign rfl rfl rfl rfl ?_
    | refine Plan.skip rfl rfl ?_
    | refine Plan.extract rfl rfl rfl rfl rfl ?_
    | refine Plan.pick rfl rfl rfl rfl rfl ?_
    | refine Plan.lenStr rfl rfl rfl rfl Try.underlying9 ?_
    | refine Plan.lenE rfl rfl rfl rfl Try.underlying27 ?_
    | (refine Plan.ints rfl rfl rfl rfl rfl rfl ?_; (first | refine Plan.int (i64u8 _) ?_ | refine Plan.int (i64r (by omega)) ?_ | refine Plan.int (u64r (by omega)) ?_ | refine Plan.int (u8r (by omega)) ?_ | refine Plan.int (u16r (by omega)) ?_ | refine Plan.int (quoN (by omega)) ?_ | refine Plan.int (remN _ _) ?_ | refine Plan.int (u8N _) ?_ | skip))
    | refine Plan.un rfl rfl rfl rfl rfl ?_
    | refine Plan.lenB rfl rfl rfl rfl (by first | exact Sub.refl _ | exact Sub.own | exact Sub.old (fun _ h => h) | exact Sub.oldOwn (fun _ h => h) | exact Sub.nilRow | exact Sub.ownLower hB | exact Sub.nilOwn (fun _ h => Nat.le_trans hB h.size)) Try.underlying27 ?_
    | (refine Plan.convInt rfl rfl rfl rfl (by first | exact Try.underlying2 | exact Try.underlying3 | exact Try.underlying5 | exact Try.underlying21 | exact Try.underlying25 | exact Try.underlying33 | exact Try.underlying53 | exact Try.underlying89) (by first | exact Try.underlying2 | exact Try.underlying3 | exact Try.underlying5 | exact Try.underlying21 | exact Try.underlying25 | exact Try.underlying33 | exact Try.underlying53 | exact Try.underlying89) ?_; (first | refine Plan.int (i64u8 _) ?_ | refine Plan.int (i64r (by omega)) ?_ | refine Plan.int (u64r (by omega)) ?_ | refine Plan.int (u8r (by omega)) ?_ | refine Plan.int (u16r (by omega)) ?_ | refine Plan.int (quoN (by omega)) ?_ | refine Plan.int (remN _ _) ?_ | refine Plan.int (u8N _) ?_ | skip))
    | refine Plan.nilOk rfl rfl rfl rfl ?_
    | refine Plan.fieldC rfl rfl rfl rfl (by first | exact Try.underlying65 | exact Try.underlying67 | exact Try.underlying73) rfl (by kernel_rfl) (by first | exact (rfl : _ = 0) | exact (rfl : _ = 1) | exact (rfl : _ = 2) | exact (rfl : _ = 3) | exact (rfl : _ = 4) | exact (rfl : _ = 5)) ?_
    | refine Plan.loadC (key := 1000) (q := 0) rfl rfl rfl rfl rfl rfl (obj_reads1 rfl) (by first | exact Try.underlying3 | exact Try.underlying9 | exact Try.underlying27 | exact Try.underlying4 | exact Try.underlying5 | exact Try.underlying33 | exact Try.underlying25 | exact Try.underlying23) (by rfl) (by decide) ?_
    | refine Plan.loadC (key := 1000) (q := 1) rfl rfl rfl rfl rfl rfl (obj_reads1 rfl) (by first | exact Try.underlying3 | exact Try.underlying9 | exact Try.underlying27 | exact Try.underlying4 | exact Try.underlying5 | exact Try.underlying33 | exact Try.underlying25 | exact Try.underlying23) (by rfl) (by decide) ?_
    | refine Plan.loadC (key := 1000) (q := 2) rfl rfl rfl rfl rfl rfl (obj_reads1 rfl) (by first | exact Try.underlying3 | exact Try.underlying9 | exact Try.underlying27 | exact Try.underlying4 | exact Try.underlying5 | exact Try.underlying33 | exact Try.underlying25 | exact Try.underlying23) (by rfl) (by decide) ?_
    | refine Plan.eqlPtr rfl rfl rfl rfl (by kernel_rfl) ?_
    | refine Plan.neqPtr rfl rfl rfl rfl (by kernel_rfl) ?_
    | refine J.seq (J.region mixed hI (by kernel_rfl) ?_)
    | refine J.region mixed hI (by kernel_rfl) ?_
    | refine J.seq (J.seq (J.region mixed hI (by kernel_rfl) ?_))
    | refine J.condF rfl ?_
    | refine J.condT rfl ?_
    | refine J.skip ?_)
        refine J.condE rfl (fun hbit => ?_) (fun hbit => ?_)
        · have hbit' : m / 2 ^ (15 - i) % 2 = 1 := by omega
          have hq8 : (p + i) / 8 < (flips t0 p m i).length := by omega
          have hget : (bs (l.take f ++ flips t0 p m i))[0 + f * 1 + (p + i) / 8 * 1]? = some (.int .u8 ((flips t0 p m i).getD ((p + i) / 8) 0).toNat) := by
            have hlf : (l.take f).length = f := by rw [List.length_take]; omega
            rw [show 0 + f * 1 + (p + i) / 8 * 1 = f + (p + i) / 8 by omega]
            simp only [bs, List.map_append]
            rw [List.getElem?_append_right (by rw [List.length_map, hlf]; omega), List.length_map, hlf, Nat.add_sub_cancel_left, List.getElem?_map, List.getElem?_eq_getElem hq8, List.getD_eq_getElem?_getD, List.getElem?_eq_getElem hq8]
            rfl
          refine (J.region mixed hI (by kernel_rfl) ?_)
          refine Plan.move rfl rfl rfl rfl ?_
          refine Plan.move rfl rfl rfl rfl ?_
          refine Plan.move rfl rfl rfl rfl ?_
          refine Plan.ints rfl rfl rfl rfl rfl rfl ?_
          refine Plan.int (y := ((p + i : Nat) : Int)) (by rw [i64r (by omega)]; omega) ?_
          refine Plan.ints rfl rfl rfl rfl rfl rfl ?_
          refine Plan.int (y := (((p + i) / 8 : Nat) : Int)) (quoN (y := 8) (by omega)) ?_
          refine Plan.indexC rfl rfl rfl rfl rfl eltB (by omega) rfl ?_
          refine Plan.loadC (key := 1000) (q := 1) rfl rfl rfl rfl rfl rfl (row_reads1 hget) Try.underlying5 rfl (by decide) ?_
          refine Plan.move rfl rfl rfl rfl ?_
          refine Plan.move rfl rfl rfl rfl ?_
          refine Plan.ints rfl rfl rfl rfl rfl rfl ?_
          refine Plan.int (y := ((p + i : Nat) : Int)) (by rw [i64r (by omega)]; omega) ?_
          refine Plan.ints rfl rfl rfl rfl rfl rfl ?_
          refine Plan.int (y := (((p + i) % 8 : Nat) : Int)) (remN _ 8) ?_
          refine Plan.shrN (p := 128) (q := (p + i) % 8) rfl rfl rfl rfl rfl (by show (p + i) % 8 ≤ 8; omega) ?_
          refine Plan.int (bit_natD (p + i)) ?_
          refine Plan.ints rfl rfl rfl rfl rfl rfl ?_
          refine Plan.int (u8_xor _ _) ?_
          refine Plan.indexC rfl rfl rfl rfl rfl eltB (by omega) rfl ?_
          refine Plan.storeC (key := 1000) (q := 1) rfl rfl rfl rfl rfl rfl (by simp [Value.cells, Value.oneCell']) (by kernel_rfl) rfl hA rfl (row_pat1 (List.getElem?_eq_some_iff.1 hget).1) ?_
          have hset : (bs (l.take f ++ flips t0 p m i)).set (0 + f * 1 + (p + i) / 8 * 1) (.int .u8 ((flips t0 p m i).getD ((p + i) / 8) 0 ^^^ bitAt (p + i)).toNat) = bs (l.take f ++ flips t0 p m (i + 1)) := by
            have hlf : (l.take f).length = f := by rw [List.length_take]; omega
            rw [bsSet, show 0 + f * 1 + (p + i) / 8 * 1 = f + (p + i) / 8 by omega]
            rw [List.set_append_right _ _ (by omega), hlf, Nat.add_sub_cancel_left]
            simp only [flips, if_pos hbit']
            rfl
          rw [hset]
          repeat (first
    | refine Plan.move rfl rfl rfl rfl ?_
    | refine Plan.assign rfl rfl rfl rfl ?_
    | refine Plan.skip rfl rfl ?_
    | refine Plan.extract rfl rfl rfl rfl rfl ?_
    | refine Plan.pick rfl rfl rfl rfl rfl ?_
    | refine Plan.lenStr rfl rfl rfl rfl Try.underlying9 ?_
    | refine Plan.lenE rfl rfl rfl rfl Try.underlying27 ?_
    | (refine Plan.ints rfl rfl rfl rfl rfl rfl ?_; (first | refine Plan.int (i64u8 _) ?_ | refine Plan.int (i64r (by omega)) ?_ | refine Plan.int (u64r (by omega)) ?_ | refine Plan.int (u8r (by omega)) ?_ | refine Plan.int (u16r (by omega)) ?_ | refine Plan.int (quoN (by omega)) ?_ | refine Plan.int (remN _ _) ?_ | refine Plan.int (u8N _) ?_ | skip))
    | refine Plan.un rfl rfl rfl rfl rfl ?_
    | refine Plan.lenB rfl rfl rfl rfl (by first | exact Sub.refl _ | exact Sub.own | exact Sub.old (fun _ h => h) | exact Sub.oldOwn (fun _ h => h) | exact Sub.nilRow | exact Sub.ownLower hB | exact Sub.nilOwn (fun _ h => Nat.le_trans hB h.size)) Try.underlying27 ?_
    | (refine Plan.convInt rfl rfl rfl rfl (by first | exact Try.underlying2 | exact Try.underlying3 | exact Try.underlying5 | exact Try.underlying21 | exact Try.underlying25 | exact Try.underlying33 | exact Try.underlying53 | exact Try.underlying89) (by first | exact Try.underlying2 | exact Try.underlying3 | exact Try.underlying5 | exact Try.underlying21 | exact Try.underlying25 | exact Try.underlying33 | exact Try.underlying53 | exact Try.underlying89) ?_; (first | refine Plan.int (i64u8 _) ?_ | refine Plan.int (i64r (by omega)) ?_ | refine Plan.int (u64r (by omega)) ?_ | refine Plan.int (u8r (by omega)) ?_ | refine Plan.int (u16r (by omega)) ?_ | refine Plan.int (quoN (by omega)) ?_ | refine Plan.int (remN _ _) ?_ | refine Plan.int (u8N _) ?_ | skip))
    | refine Plan.nilOk rfl rfl rfl rfl ?_
    | refine Plan.fieldC rfl rfl rfl rfl (by first | exact Try.underlying65 | exact Try.underlying67 | exact Try.underlying73) rfl (by kernel_rfl) (by first | exact (rfl : _ = 0) | exact (rfl : _ = 1) | exact (rfl : _ = 2) | exact (rfl : _ = 3) | exact (rfl : _ = 4) | exact (rfl : _ = 5)) ?_
    | refine Plan.loadC (key := 1000) (q := 0) rfl rfl rfl rfl rfl rfl (obj_reads1 rfl) (by first | exact Try.underlying3 | exact Try.underlying9 | exact Try.underlying27 | exact Try.underlying4 | exact Try.underlying5 | exact Try.underlying33 | exact Try.underlying25 | exact Try.underlying23) (by rfl) (by decide) ?_
    | refine Plan.loadC (key := 1000) (q := 1) rfl rfl rfl rfl rfl rfl (obj_reads1 rfl) (by first | exact Try.underlying3 | exact Try.underlying9 | exact Try.underlying27 | exact Try.underlying4 | exact Try.underlying5 | exact Try.underlying33 | exact Try.underlying25 | exact Try.underlying23) (by rfl) (by decide) ?_
    | refine Plan.loadC (key := 1000) (q := 2) rfl rfl rfl rfl rfl rfl (obj_reads1 rfl) (by first | exact Try.underlying3 | exact Try.underlying9 | exact Try.underlying27 | exact Try.underlying4 | exact Try.underlying5 | exact Try.underlying33 | exact Try.underlying25 | exact Try.underlying23) (by rfl) (by decide) ?_
    | refine Plan.eqlPtr rfl rfl rfl rfl (by kernel_rfl) ?_
    | refine Plan.neqPtr rfl rfl rfl rfl (by kernel_rfl) ?_
    | refine J.seq (J.region mixed hI (by kernel_rfl) ?_)
    | refine J.region mixed hI (by kernel_rfl) ?_
    | refine J.seq (J.seq (J.region mixed hI (by kernel_rfl) ?_))
    | refine J.condF rfl ?_
    | refine J.condT rfl ?_
    | refine J.skip ?_)
          refine Nrm.next (i + 1) hlt' (by omega) (by repeat (first | exact Weak.nil | refine Weak.cons rfl (Sub.refl _) ?_))
        · have hbit' : ¬ m / 2 ^ (15 - i) % 2 = 1 := by omega
          have hset : flips t0 p m i = flips t0 p m (i + 1) := by simp only [flips, if_neg hbit']
          refine J.convC (key := 1000) (q := 1) rfl rfl (Ent.rowEq (congrArg (fun t => bs (l.take f ++ t)) hset)) ?_
          repeat (first
    | refine Plan.move rfl rfl rfl rfl ?_
    | refine Plan.assign rfl rfl rfl rfl ?_
    | refine Plan.skip rfl rfl ?_
    | refine Plan.extract rfl rfl rfl rfl rfl ?_
    | refine Plan.pick rfl rfl rfl rfl rfl ?_
    | refine Plan.lenStr rfl rfl rfl rfl Try.underlying9 ?_
    | refine Plan.lenE rfl rfl rfl rfl Try.underlying27 ?_
    | (refine Plan.ints rfl rfl rfl rfl rfl rfl ?_; (first | refine Plan.int (i64u8 _) ?_ | refine Plan.int (i64r (by omega)) ?_ | refine Plan.int (u64r (by omega)) ?_ | refine Plan.int (u8r (by omega)) ?_ | refine Plan.int (u16r (by omega)) ?_ | refine Plan.int (quoN (by omega)) ?_ | refine Plan.int (remN _ _) ?_ | refine Plan.int (u8N _) ?_ | skip))
    | refine Plan.un rfl rfl rfl rfl rfl ?_
    | refine Plan.lenB rfl rfl rfl rfl (by first | exact Sub.refl _ | exact Sub.own | exact Sub.old (fun _ h => h) | exact Sub.oldOwn (fun _ h => h) | exact Sub.nilRow | exact Sub.ownLower hB | exact Sub.nilOwn (fun _ h => Nat.le_trans hB h.size)) Try.underlying27 ?_
    | (refine Plan.convInt rfl rfl rfl rfl (by first | exact Try.underlying2 | exact Try.underlying3 | exact Try.underlying5 | exact Try.underlying21 | exact Try.underlying25 | exact Try.underlying33 | exact Try.underlying53 | exact Try.underlying89) (by first | exact Try.underlying2 | exact Try.underlying3 | exact Try.underlying5 | exact Try.underlying21 | exact Try.underlying25 | exact Try.underlying33 | exact Try.underlying53 | exact Try.underlying89) ?_; (first | refine Plan.int (i64u8 _) ?_ | refine Plan.int (i64r (by omega)) ?_ | refine Plan.int (u64r (by omega)) ?_ | refine Plan.int (u8r (by omega)) ?_ | refine Plan.int (u16r (by omega)) ?_ | refine Plan.int (quoN (by omega)) ?_ | refine Plan.int (remN _ _) ?_ | refine Plan.int (u8N _) ?_ | skip))
    | refine Plan.nilOk rfl rfl rfl rfl ?_
    | refine Plan.fieldC rfl rfl rfl rfl (by first | exact Try.underlying65 | exact Try.underlying67 | exact Try.underlying73) rfl (by kernel_rfl) (by first | exact (rfl : _ = 0) | exact (rfl : _ = 1) | exact (rfl : _ = 2) | exact (rfl : _ = 3) | exact (rfl : _ = 4) | exact (rfl : _ = 5)) ?_
    | refine Plan.loadC (key := 1000) (q := 0) rfl rfl rfl rfl rfl rfl (obj_reads1 rfl) (by first | exact Try.underlying3 | exact Try.underlying9 | exact Try.underlying27 | exact Try.underlying4 | exact Try.underlying5 | exact Try.underlying33 | exact Try.underlying25 | exact Try.underlying23) (by rfl) (by decide) ?_
    | refine Plan.loadC (key := 1000) (q := 1) rfl rfl rfl rfl rfl rfl (obj_reads1 rfl) (by first | exact Try.underlying3 | exact Try.underlying9 | exact Try.underlying27 | exact Try.underlying4 | exact Try.underlying5 | exact Try.underlying33 | exact Try.underlying25 | exact Try.underlying23) (by rfl) (by decide) ?_
    | refine Plan.loadC (key := 1000) (q := 2) rfl rfl rfl rfl rfl rfl (obj_reads1 rfl) (by first | exact Try.underlying3 | exact Try.underlying9 | exact Try.underlying27 | exact Try.underlying4 | exact Try.underlying5 | exact Try.underlying33 | exact Try.underlying25 | exact Try.underlying23) (by rfl) (by decide) ?_
    | refine Plan.eqlPtr rfl rfl rfl rfl (by kernel_rfl) ?_
    | refine Plan.neqPtr rfl rfl rfl rfl (by kernel_rfl) ?_
    | refine J.seq (J.region mixed hI (by kernel_rfl) ?_)
    | refine J.region mixed hI (by kernel_rfl) ?_
    | refine J.seq (J.seq (J.region mixed hI (by kernel_rfl) ?_))
    | refine J.condF rfl ?_
    | refine J.condT rfl ?_
    | refine J.skip ?_)
          refine Nrm.next (i + 1) hlt' (by omega) (by repeat (first | exact Weak.nil | refine Weak.cons rfl (Sub.refl _) ?_))
      · have hi16 : i = 16 := by omega
        subst hi16
        refine J.exit ?_
        have hcl := hclose (some ⟨g, 0, none⟩)
        rw [htail] at hcl
        repeat (first
    | refine Plan.move rfl rfl rfl rfl ?_
    | refine Plan.assign rfl rfl rfl rfl ?_
    | refine Plan.skip rfl rfl ?_
    | refine Plan.extract rfl rfl rfl rfl rfl ?_
    | refine Plan.pick rfl rfl rfl rfl rfl ?_
    | refine Plan.lenStr rfl rfl rfl rfl Try.underlying9 ?_
    | refine Plan.lenE rfl rfl rfl rfl Try.underlying27 ?_
    | (refine Plan.ints rfl rfl rfl rfl rfl rfl ?_; (first | refine Plan.int (i64u8 _) ?_ | refine Plan.int (i64r (by omega)) ?_ | refine Plan.int (u64r (by omega)) ?_ | refine Plan.int (u8r (by omega)) ?_ | refine Plan.int (u16r (by omega)) ?_ | refine Plan.int (quoN (by omega)) ?_ | refine Plan.int (remN _ _) ?_ | refine Plan.int (u8N _) ?_ | skip))
    | refine Plan.un rfl rfl rfl rfl rfl ?_
    | refine Plan.lenB rfl rfl rfl rfl (by first | exact Sub.refl _ | exact Sub.own | exact Sub.old (fun _ h => h) | exact Sub.oldOwn (fun _ h => h) | exact Sub.nilRow | exact Sub.ownLower hB | exact Sub.nilOwn (fun _ h => Nat.le_trans hB h.size)) Try.underlying27 ?_
    | (refine Plan.convInt rfl rfl rfl rfl (by first | exact Try.underlying2 | exact Try.underlying3 | exact Try.underlying5 | exact Try.underlying21 | exact Try.underlying25 | exact Try.underlying33 | exact Try.underlying53 | exact Try.underlying89) (by first | exact Try.underlying2 | exact Try.underlying3 | exact Try.underlying5 | exact Try.underlying21 | exact Try.underlying25 | exact Try.underlying33 | exact Try.underlying53 | exact Try.underlying89) ?_; (first | refine Plan.int (i64u8 _) ?_ | refine Plan.int (i64r (by omega)) ?_ | refine Plan.int (u64r (by omega)) ?_ | refine Plan.int (u8r (by omega)) ?_ | refine Plan.int (u16r (by omega)) ?_ | refine Plan.int (quoN (by omega)) ?_ | refine Plan.int (remN _ _) ?_ | refine Plan.int (u8N _) ?_ | skip))
    | refine Plan.nilOk rfl rfl rfl rfl ?_
    | refine Plan.fieldC rfl rfl rfl rfl (by first | exact Try.underlying65 | exact Try.underlying67 | exact Try.underlying73) rfl (by kernel_rfl) (by first | exact (rfl : _ = 0) | exact (rfl : _ = 1) | exact (rfl : _ = 2) | exact (rfl : _ = 3) | exact (rfl : _ = 4) | exact (rfl : _ = 5)) ?_
    | refine Plan.loadC (key := 1000) (q := 0) rfl rfl rfl rfl rfl rfl (obj_reads1 rfl) (by first | exact Try.underlying3 | exact Try.underlying9 | exact Try.underlying27 | exact Try.underlying4 | exact Try.underlying5 | exact Try.underlying33 | exact Try.underlying25 | exact Try.underlying23) (by rfl) (by decide) ?_
    | refine Plan.loadC (key := 1000) (q := 1) rfl rfl rfl rfl rfl rfl (obj_reads1 rfl) (by first | exact Try.underlying3 | exact Try.underlying9 | exact Try.underlying27 | exact Try.underlying4 | exact Try.underlying5 | exact Try.underlying33 | exact Try.underlying25 | exact Try.underlying23) (by rfl) (by decide) ?_
    | refine Plan.loadC (key := 1000) (q := 2) rfl rfl rfl rfl rfl rfl (obj_reads1 rfl) (by first | exact Try.underlying3 | exact Try.underlying9 | exact Try.underlying27 | exact Try.underlying4 | exact Try.underlying5 | exact Try.underlying33 | exact Try.underlying25 | exact Try.underlying23) (by rfl) (by decide) ?_
    | refine Plan.eqlPtr rfl rfl rfl rfl (by kernel_rfl) ?_
    | refine Plan.neqPtr rfl rfl rfl rfl (by kernel_rfl) ?_
    | refine J.seq (J.region mixed hI (by kernel_rfl) ?_)
    | refine J.region mixed hI (by kernel_rfl) ?_
    | refine J.seq (J.seq (J.region mixed hI (by kernel_rfl) ?_))
    | refine J.condF rfl ?_
    | refine J.condT rfl ?_
    | refine J.skip ?_)
        refine Plan.regroup [diskC β (crashOf l f keep at_ turn) f r] (by kernel_rfl) hI (key := 1000) rfl (hcl.trans Ent.addEmp) ?_
        refine Plan.callC (key := 1000) (q := 0) rfl rfl rfl (disk_Sync β (crashOf l f keep at_ turn) f r) Try.func40 rfl rfl (by intro _ e; cases e; decide) (by repeat (first | exact Opnds.nil | refine Opnds.cons rfl (by first | exact Sub.refl _ | exact Sub.own | exact Sub.old (fun _ h => h) | exact Sub.oldOwn (fun _ h => h) | exact Sub.nilRow) ?_)) rfl hA rfl ?_
        intro _ _
        exact Nrm.retC0 (key := 1000) () rfl rfl rfl trivial Ent.one (.inl rfl)
  · have htail : tailOf t0 at_ turn = t0 := by unfold tailOf; rw [ht0l, if_neg h2]
    refine Plan.sliceAny rfl rfl rfl rfl eltB rfl (by omega) ?_
    repeat (first
    | refine Plan.move rfl rfl rfl rfl ?_
    | refine Plan.assign rfl rfl rfl rfl ?_
    | refine Plan.skip rfl rfl ?_
    | refine Plan.extract rfl rfl rfl rfl rfl ?_
    | refine Plan.pick rfl rfl rfl rfl rfl ?_
    | refine Plan.lenStr rfl rfl rfl rfl Try.underlying9 ?_
    | refine Plan.lenE rfl rfl rfl rfl Try.underlying27 ?_
    | (refine Plan.ints rfl rfl rfl rfl rfl rfl ?_; (first | refine Plan.int (i64u8 _) ?_ | refine Plan.int (i64r (by omega)) ?_ | refine Plan.int (u64r (by omega)) ?_ | refine Plan.int (u8r (by omega)) ?_ | refine Plan.int (u16r (by omega)) ?_ | refine Plan.int (quoN (by omega)) ?_ | refine Plan.int (remN _ _) ?_ | refine Plan.int (u8N _) ?_ | skip))
    | refine Plan.un rfl rfl rfl rfl rfl ?_
    | refine Plan.lenB rfl rfl rfl rfl (by first | exact Sub.refl _ | exact Sub.own | exact Sub.old (fun _ h => h) | exact Sub.oldOwn (fun _ h => h) | exact Sub.nilRow | exact Sub.ownLower hB | exact Sub.nilOwn (fun _ h => Nat.le_trans hB h.size)) Try.underlying27 ?_
    | (refine Plan.convInt rfl rfl rfl rfl (by first | exact Try.underlying2 | exact Try.underlying3 | exact Try.underlying5 | exact Try.underlying21 | exact Try.underlying25 | exact Try.underlying33 | exact Try.underlying53 | exact Try.underlying89) (by first | exact Try.underlying2 | exact Try.underlying3 | exact Try.underlying5 | exact Try.underlying21 | exact Try.underlying25 | exact Try.underlying33 | exact Try.underlying53 | exact Try.underlying89) ?_; (first | refine Plan.int (i64u8 _) ?_ | refine Plan.int (i64r (by omega)) ?_ | refine Plan.int (u64r (by omega)) ?_ | refine Plan.int (u8r (by omega)) ?_ | refine Plan.int (u16r (by omega)) ?_ | refine Plan.int (quoN (by omega)) ?_ | refine Plan.int (remN _ _) ?_ | refine Plan.int (u8N _) ?_ | skip))
    | refine Plan.nilOk rfl rfl rfl rfl ?_
    | refine Plan.fieldC rfl rfl rfl rfl (by first | exact Try.underlying65 | exact Try.underlying67 | exact Try.underlying73) rfl (by kernel_rfl) (by first | exact (rfl : _ = 0) | exact (rfl : _ = 1) | exact (rfl : _ = 2) | exact (rfl : _ = 3) | exact (rfl : _ = 4) | exact (rfl : _ = 5)) ?_
    | refine Plan.loadC (key := 1000) (q := 0) rfl rfl rfl rfl rfl rfl (obj_reads1 rfl) (by first | exact Try.underlying3 | exact Try.underlying9 | exact Try.underlying27 | exact Try.underlying4 | exact Try.underlying5 | exact Try.underlying33 | exact Try.underlying25 | exact Try.underlying23) (by rfl) (by decide) ?_
    | refine Plan.loadC (key := 1000) (q := 1) rfl rfl rfl rfl rfl rfl (obj_reads1 rfl) (by first | exact Try.underlying3 | exact Try.underlying9 | exact Try.underlying27 | exact Try.underlying4 | exact Try.underlying5 | exact Try.underlying33 | exact Try.underlying25 | exact Try.underlying23) (by rfl) (by decide) ?_
    | refine Plan.loadC (key := 1000) (q := 2) rfl rfl rfl rfl rfl rfl (obj_reads1 rfl) (by first | exact Try.underlying3 | exact Try.underlying9 | exact Try.underlying27 | exact Try.underlying4 | exact Try.underlying5 | exact Try.underlying33 | exact Try.underlying25 | exact Try.underlying23) (by rfl) (by decide) ?_
    | refine Plan.eqlPtr rfl rfl rfl rfl (by kernel_rfl) ?_
    | refine Plan.neqPtr rfl rfl rfl rfl (by kernel_rfl) ?_
    | refine J.seq (J.region mixed hI (by kernel_rfl) ?_)
    | refine J.region mixed hI (by kernel_rfl) ?_
    | refine J.seq (J.seq (J.region mixed hI (by kernel_rfl) ?_))
    | refine J.condF rfl ?_
    | refine J.condT rfl ?_
    | refine J.skip ?_)
    refine J.condD rfl (fun h3 => ?_) (fun h3 => ?_)
    · omega
    rw [← htail]
    repeat (first
    | refine Plan.move rfl rfl rfl rfl ?_
    | refine Plan.assign rfl rfl rfl rfl ?_
    | refine Plan.skip rfl rfl ?_
    | refine Plan.extract rfl rfl rfl rfl rfl ?_
    | refine Plan.pick rfl rfl rfl rfl rfl ?_
    | refine Plan.lenStr rfl rfl rfl rfl Try.underlying9 ?_
    | refine Plan.lenE rfl rfl rfl rfl Try.underlying27 ?_
    | (refine Plan.ints rfl rfl rfl rfl rfl rfl ?_; (first | refine Plan.int (i64u8 _) ?_ | refine Plan.int (i64r (by omega)) ?_ | refine Plan.int (u64r (by omega)) ?_ | refine Plan.int (u8r (by omega)) ?_ | refine Plan.int (u16r (by omega)) ?_ | refine Plan.int (quoN (by omega)) ?_ | refine Plan.int (remN _ _) ?_ | refine Plan.int (u8N _) ?_ | skip))
    | refine Plan.un rfl rfl rfl rfl rfl ?_
    | refine Plan.lenB rfl rfl rfl rfl (by first | exact Sub.refl _ | exact Sub.own | exact Sub.old (fun _ h => h) | exact Sub.oldOwn (fun _ h => h) | exact Sub.nilRow | exact Sub.ownLower hB | exact Sub.nilOwn (fun _ h => Nat.le_trans hB h.size)) Try.underlying27 ?_
    | (refine Plan.convInt rfl rfl rfl rfl (by first | exact Try.underlying2 | exact Try.underlying3 | exact Try.underlying5 | exact Try.underlying21 | exact Try.underlying25 | exact Try.underlying33 | exact Try.underlying53 | exact Try.underlying89) (by first | exact Try.underlying2 | exact Try.underlying3 | exact Try.underlying5 | exact Try.underlying21 | exact Try.underlying25 | exact Try.underlying33 | exact Try.underlying53 | exact Try.underlying89) ?_; (first | refine Plan.int (i64u8 _) ?_ | refine Plan.int (i64r (by omega)) ?_ | refine Plan.int (u64r (by omega)) ?_ | refine Plan.int (u8r (by omega)) ?_ | refine Plan.int (u16r (by omega)) ?_ | refine Plan.int (quoN (by omega)) ?_ | refine Plan.int (remN _ _) ?_ | refine Plan.int (u8N _) ?_ | skip))
    | refine Plan.nilOk rfl rfl rfl rfl ?_
    | refine Plan.fieldC rfl rfl rfl rfl (by first | exact Try.underlying65 | exact Try.underlying67 | exact Try.underlying73) rfl (by kernel_rfl) (by first | exact (rfl : _ = 0) | exact (rfl : _ = 1) | exact (rfl : _ = 2) | exact (rfl : _ = 3) | exact (rfl : _ = 4) | exact (rfl : _ = 5)) ?_
    | refine Plan.loadC (key := 1000) (q := 0) rfl rfl rfl rfl rfl rfl (obj_reads1 rfl) (by first | exact Try.underlying3 | exact Try.underlying9 | exact Try.underlying27 | exact Try.underlying4 | exact Try.underlying5 | exact Try.underlying33 | exact Try.underlying25 | exact Try.underlying23) (by rfl) (by decide) ?_
    | refine Plan.loadC (key := 1000) (q := 1) rfl rfl rfl rfl rfl rfl (obj_reads1 rfl) (by first | exact Try.underlying3 | exact Try.underlying9 | exact Try.underlying27 | exact Try.underlying4 | exact Try.underlying5 | exact Try.underlying33 | exact Try.underlying25 | exact Try.underlying23) (by rfl) (by decide) ?_
    | refine Plan.loadC (key := 1000) (q := 2) rfl rfl rfl rfl rfl rfl (obj_reads1 rfl) (by first | exact Try.underlying3 | exact Try.underlying9 | exact Try.underlying27 | exact Try.underlying4 | exact Try.underlying5 | exact Try.underlying33 | exact Try.underlying25 | exact Try.underlying23) (by rfl) (by decide) ?_
    | refine Plan.eqlPtr rfl rfl rfl rfl (by kernel_rfl) ?_
    | refine Plan.neqPtr rfl rfl rfl rfl (by kernel_rfl) ?_
    | refine J.seq (J.region mixed hI (by kernel_rfl) ?_)
    | refine J.region mixed hI (by kernel_rfl) ?_
    | refine J.seq (J.seq (J.region mixed hI (by kernel_rfl) ?_))
    | refine J.condF rfl ?_
    | refine J.condT rfl ?_
    | refine J.skip ?_)
    refine Plan.regroup [diskC β (crashOf l f keep at_ turn) f r] (by kernel_rfl) hI (key := 1000) rfl ((hclose _).trans Ent.addEmp) ?_
    refine Plan.callC (key := 1000) (q := 0) rfl rfl rfl (disk_Sync β (crashOf l f keep at_ turn) f r) Try.func40 rfl rfl (by intro _ e; cases e; decide) (by repeat (first | exact Opnds.nil | refine Opnds.cons rfl (by first | exact Sub.refl _ | exact Sub.own | exact Sub.old (fun _ h => h) | exact Sub.oldOwn (fun _ h => h) | exact Sub.nilRow) ?_)) rfl hA rfl ?_
    intro _ _
    exact Nrm.retC0 (key := 1000) () rfl rfl rfl trivial Ent.one (.inl rfl)
end Go.Proofs.Ytdfdhhepbkejpaa
