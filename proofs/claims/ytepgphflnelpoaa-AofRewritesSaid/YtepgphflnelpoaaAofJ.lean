/-
  Laid together: DiskCrash, AofLaid, AofRws.
-/
import Derived.Test.YtepgphflnelpoaaAofI

section
set_option linter.unusedSimpArgs false
set_option linter.unusedVariables false
set_option maxRecDepth 20000
namespace Go.Proofs.Ytepgphflnelpoaa
open Go.Free Go.RowKit Go.Proofs
set_option maxHeartbeats 2000000

/-- The first i of 16 bits of m turned, from a place on. -/
def flips (l : List UInt8) (p m : Nat) : Nat → List UInt8
  | 0 => l
  | i + 1 => if m / 2 ^ (15 - i) % 2 = 1 then flipAt (flips l p m i) (p + i) else flips l p m i
theorem flips_length (l : List UInt8) (p m : Nat) : ∀ i, (flips l p m i).length = l.length
  | 0 => rfl
  | i + 1 => by unfold flips; split <;> simp [flip_length, flips_length l p m i]
def keptOf (n : Nat) (keep : Int) : Nat := (max 0 (min keep n)).toNat
def tailOf (t : List UInt8) (at_ turn : Int) : List UInt8 :=
  if 2 ≤ t.length then flips t (at_ % ((8 * t.length : Nat) - 15)).toNat (turn % 65536).toNat 16 else t
def crashOf (l : List UInt8) (f : Nat) (keep at_ turn : Int) : List UInt8 := l.take f ++ tailOf ((l.drop f).take (keptOf (l.length - f) keep)) at_ turn
theorem kept_eq (n : Nat) (keep : Int) : ((keptOf n keep : Nat) : Int) = if (if ((n : Nat) : Int) < keep then ((n : Nat) : Int) else keep) > 0 then (if ((n : Nat) : Int) < keep then ((n : Nat) : Int) else keep) else 0 := by
  unfold keptOf; split <;> split <;> omega
theorem kept_le (n : Nat) (keep : Int) : keptOf n keep ≤ n := by unfold keptOf; omega
theorem tail_length (t : List UInt8) (a b : Int) : (tailOf t a b).length = t.length := by unfold tailOf; split <;> simp [flips_length]

theorem and1i (x : Nat) (h : x < 65536) : IntKind.i64.wrap ((BitVec.ofInt IntKind.i64.bits (x : Int) &&& BitVec.ofInt IntKind.i64.bits 1).toNat : Int) = ((x % 2 : Nat) : Int) := by
  have e : (BitVec.ofInt IntKind.i64.bits (x : Int) &&& BitVec.ofInt IntKind.i64.bits 1).toNat = x % 2 := by
    show (BitVec.ofInt 64 (x : Int) &&& BitVec.ofInt 64 1).toNat = _
    rw [BitVec.toNat_and, BitVec.ofInt_natCast, BitVec.toNat_ofNat, Nat.mod_eq_of_lt (by omega)]
    exact Nat.and_one_is_mod x
  rw [e, i64r (by omega)]
theorem bit_natD (pos : Nat) : ((128 / 2 ^ (pos % 8) : Nat) : Int) = (bitAt pos).toNat := by
  have h : pos % 8 < 8 := Nat.mod_lt _ (by decide)
  have e : (bitAt pos).toNat = 128 / 2 ^ (pos % 8) := by
    unfold bitAt
    generalize pos % 8 = r at h
    have : r = 0 ∨ r = 1 ∨ r = 2 ∨ r = 3 ∨ r = 4 ∨ r = 5 ∨ r = 6 ∨ r = 7 := by omega
    rcases this with rfl | rfl | rfl | rfl | rfl | rfl | rfl | rfl <;> rfl
  rw [e]

def crashE (β g cap f kp r p m : Nat) (turn : Int) (A : Nat → Prop) (h t0 : List UInt8) (i : Nat) : Env :=
  [(0, .ex (ptr β)), (3, .ex (.int .i64 turn)), (9, .ex (.slice (some ⟨g, 0 + f * 1, none⟩) (f + kp - f) (cap - f))), (10, .ex (.int .i64 p)), (57, .ex (.int .i64 i)),
   (1000, heap A [obj β [.slice (some ⟨g, 0, none⟩) (f + kp) cap, .int .i64 f, .int .i64 r], rowC 5 1 (some ⟨g, 0, none⟩) (f + kp) cap (bs (h ++ flips t0 p m i))])]

theorem disk_Crash (β : Nat) (l : List UInt8) (f r : Nat) (keep at_ turn : Int) (hl : l.length ≤ 65536) (hf : f ≤ l.length)
    (hkeep : -9223372036854775808 ≤ keep ∧ keep ≤ 9223372036854775807) (hat : -9223372036854775808 ≤ at_ ∧ at_ ≤ 9223372036854775807) (hturn : -9223372036854775808 ≤ turn ∧ turn ≤ 9223372036854775807) :
    SpcC Try.prog 23 [.ex (ptr β), .ex (.int .i64 keep), .ex (.int .i64 at_), .ex (.int .i64 turn)] (diskC β l f r) (fun _ : Unit => True)
    (fun _ => Fa.any) (fun _ => diskC β (crashOf l f keep at_ turn) (crashOf l f keep at_ turn).length r) := by
  refine SpcC.intro Try.func23 rfl (Nat.le_of_ble_eq_true rfl) fun w0 F => ?_
  have hI := kept_below F w0
  have hA := Own.kept F w0
  refine J.exC (key := 1000) (q := 0) rfl rfl fun x => ?_
  refine J.sepC (key := 1000) (q := 0) rfl rfl ?_
  refine J.factC (key := 1000) (q := 1) rfl rfl (fun w F hh => row_fact hh) fun hfact => ?_
  obtain ⟨-, hcap, hcapM, hB⟩ := hfact
  obtain ⟨B, cap⟩ := x
  dsimp only at hcap hcapM hB
  dsimp only
  repeat (first
    | refine Plan.move rfl rfl rfl rfl ?_
    | refine Plan.assign rfl rfl rfl rfl ?_
    | refine Plan.skip rfl rfl ?_
    | refine Plan.extract rfl rfl rfl rfl rfl ?_
    | refine Plan.pick rfl rfl rfl rfl rfl ?_
    | refine Plan.lenStr rfl rfl rfl rfl Try.underlying9 ?_
    | refine Plan.lenE rfl rfl rfl rfl Try.underlying27 ?_
    | (refine Plan.ints rfl rfl rfl rfl rfl rfl ?_; (first | refine Plan.int (i64u8 _) ?_ | refine Plan.int (i64r (by omega)) ?_ | refine Plan.int (u64r (by omega)) ?_ | refine Plan.int (u8r (by omega)) ?_ | refine Plan.int (u16r (by omega)) ?_ | refine Plan.int (quoN (by omega)) ?_ | refine Plan.int (remN _ _) ?_ | refine Plan.int (u8N _) ?_ | skip))
    | refine Plan.un rfl rfl rfl rfl rfl ?_
    | refine Plan.lenB rfl rfl rfl rfl (by first | exact Sub.refl _ | exact Sub.own | exact Sub.old (fun _ h => h) | exact Sub.oldOwn (fun _ h => h) | exact Sub.nilRow | exact Sub.ownLower hB | exact Sub.nilOwn (fun _ h => Nat.le_trans hB h.size)) Try.underlying27 ?_
    | (refine Plan.convInt rfl rfl rfl rfl (by first | exact Try.underlying3 | exact Try.underlying5 | exact Try.underlying118 | exact Try.underlying122 | exact Try.underlying2 | exact Try.underlying100 | exact Try.underlying147 | exact Try.underlying21 | exact Try.underlying25) (by first | exact Try.underlying3 | exact Try.underlying5 | exact Try.underlying118 | exact Try.underlying122 | exact Try.underlying2 | exact Try.underlying100 | exact Try.underlying147 | exact Try.underlying21 | exact Try.underlying25) ?_; (first | refine Plan.int (i64u8 _) ?_ | refine Plan.int (i64r (by omega)) ?_ | refine Plan.int (u64r (by omega)) ?_ | refine Plan.int (u8r (by omega)) ?_ | refine Plan.int (u16r (by omega)) ?_ | refine Plan.int (quoN (by omega)) ?_ | refine Plan.int (remN _ _) ?_ | refine Plan.int (u8N _) ?_ | skip))
    | refine Plan.nilOk rfl rfl rfl rfl ?_
    | refine Plan.fieldC rfl rfl rfl rfl (by first | exact Try.underlying74 | exact Try.underlying71 | exact Try.underlying48 | exact Try.underlying46 | exact Try.underlying42 | exact Try.underlying116 | exact Try.underlying105 | exact Try.underlying124 | exact Try.underlying55 | exact Try.underlying69 | exact Try.underlying51) rfl (by kernel_rfl) (by first | exact (rfl : _ = 0) | exact (rfl : _ = 1) | exact (rfl : _ = 2) | exact (rfl : _ = 3) | exact (rfl : _ = 4) | exact (rfl : _ = 5) | exact (rfl : _ = 6) | exact (rfl : _ = 7) | exact (rfl : _ = 8) | exact (rfl : _ = 9) | exact (rfl : _ = 10) | exact (rfl : _ = 11) | exact (rfl : _ = 12) | exact (rfl : _ = 13) | exact (rfl : _ = 14) | exact (rfl : _ = 15) | exact (rfl : _ = 16) | exact (rfl : _ = 17) | exact (rfl : _ = 18) | exact (rfl : _ = 19) | exact (rfl : _ = 20) | exact (rfl : _ = 21) | exact (rfl : _ = 22) | exact (rfl : _ = 23) | exact (rfl : _ = 24) | exact (rfl : _ = 25)) ?_
    | refine Plan.loadC (key := 1000) (q := 0) rfl rfl rfl rfl rfl rfl (obj_reads1 rfl) (by first | exact Try.underlying3 | exact Try.underlying9 | exact Try.underlying27 | exact Try.underlying4 | exact Try.underlying5 | exact Try.underlying118 | exact Try.underlying25 | exact Try.underlying35 | exact Try.underlying120 | exact Try.underlying23 | exact Try.underlying62) (by rfl) (by decide) ?_
    | refine Plan.loadC (key := 1000) (q := 1) rfl rfl rfl rfl rfl rfl (obj_reads1 rfl) (by first | exact Try.underlying3 | exact Try.underlying9 | exact Try.underlying27 | exact Try.underlying4 | exact Try.underlying5 | exact Try.underlying118 | exact Try.underlying25 | exact Try.underlying35 | exact Try.underlying120 | exact Try.underlying23 | exact Try.underlying62) (by rfl) (by decide) ?_
    | refine Plan.loadC (key := 1000) (q := 2) rfl rfl rfl rfl rfl rfl (obj_reads1 rfl) (by first | exact Try.underlying3 | exact Try.underlying9 | exact Try.underlying27 | exact Try.underlying4 | exact Try.underlying5 | exact Try.underlying118 | exact Try.underlying25 | exact Try.underlying35 | exact Try.underlying120 | exact Try.underlying23 | exact Try.underlying62) (by rfl) (by decide) ?_
    | refine Plan.eqlPtr rfl rfl rfl rfl (by kernel_rfl) ?_
    | refine Plan.neqPtr rfl rfl rfl rfl (by kernel_rfl) ?_
    | refine J.seq (J.region mixed hI (by kernel_rfl) ?_)
    | refine J.region mixed hI (by kernel_rfl) ?_
    | refine J.seq (J.seq (J.region mixed hI (by kernel_rfl) ?_))
    | refine J.condF rfl ?_
    | refine J.condT rfl ?_
    | refine J.skip ?_)
  refine Plan.int (y := ((l.length - f : Nat) : Int)) (by omega) ?_
  refine Plan.min2 rfl rfl rfl rfl rfl ?_
  refine Plan.max2 rfl rfl rfl rfl rfl ?_
  rw [← kept_eq]
  obtain ⟨kp, hkp⟩ : ∃ kp, kp = keptOf (l.length - f) keep := ⟨_, rfl⟩
  have hkple : kp ≤ l.length - f := by rw [hkp]; exact kept_le _ _
  rw [← hkp]
  repeat (first
    | refine Plan.move rfl rfl rfl rfl ?_
    | refine Plan.assign rfl rfl rfl rfl ?_
    | refine Plan.skip rfl rfl ?_
    | refine Plan.extract rfl rfl rfl rfl rfl ?_
    | refine Plan.pick rfl rfl rfl rfl rfl ?_
    | refine Plan.lenStr rfl rfl rfl rfl Try.underlying9 ?_
    | refine Plan.lenE rfl rfl rfl rfl Try.underlying27 ?_
    | (refine Plan.ints rfl rfl rfl rfl rfl rfl ?_; (first | refine Plan.int (i64u8 _) ?_ | refine Plan.int (i64r (by omega)) ?_ | refine Plan.int (u64r (by omega)) ?_ | refine Plan.int (u8r (by omega)) ?_ | refine Plan.int (u16r (by omega)) ?_ | refine Plan.int (quoN (by omega)) ?_ | refine Plan.int (remN _ _) ?_ | refine Plan.int (u8N _) ?_ | skip))
    | refine Plan.un rfl rfl rfl rfl rfl ?_
    | refine Plan.lenB rfl rfl rfl rfl (by first | exact Sub.refl _ | exact Sub.own | exact Sub.old (fun _ h => h) | exact Sub.oldOwn (fun _ h => h) | exact Sub.nilRow | exact Sub.ownLower hB | exact Sub.nilOwn (fun _ h => Nat.le_trans hB h.size)) Try.underlying27 ?_
    | (refine Plan.convInt rfl rfl rfl rfl (by first | exact Try.underlying3 | exact Try.underlying5 | exact Try.underlying118 | exact Try.underlying122 | exact Try.underlying2 | exact Try.underlying100 | exact Try.underlying147 | exact Try.underlying21 | exact Try.underlying25) (by first | exact Try.underlying3 | exact Try.underlying5 | exact Try.underlying118 | exact Try.underlying122 | exact Try.underlying2 | exact Try.underlying100 | exact Try.underlying147 | exact Try.underlying21 | exact Try.underlying25) ?_; (first | refine Plan.int (i64u8 _) ?_ | refine Plan.int (i64r (by omega)) ?_ | refine Plan.int (u64r (by omega)) ?_ | refine Plan.int (u8r (by omega)) ?_ | refine Plan.int (u16r (by omega)) ?_ | refine Plan.int (quoN (by omega)) ?_ | refine Plan.int (remN _ _) ?_ | refine Plan.int (u8N _) ?_ | skip))
    | refine Plan.nilOk rfl rfl rfl rfl ?_
    | refine Plan.fieldC rfl rfl rfl rfl (by first | exact Try.underlying74 | exact Try.underlying71 | exact Try.underlying48 | exact Try.underlying46 | exact Try.underlying42 | exact Try.underlying116 | exact Try.underlying105 | exact Try.underlying124 | exact Try.underlying55 | exact Try.underlying69 | exact Try.underlying51) rfl (by kernel_rfl) (by first | exact (rfl : _ = 0) | exact (rfl : _ = 1) | exact (rfl : _ = 2) | exact (rfl : _ = 3) | exact (rfl : _ = 4) | exact (rfl : _ = 5) | exact (rfl : _ = 6) | exact (rfl : _ = 7) | exact (rfl : _ = 8) | exact (rfl : _ = 9) | exact (rfl : _ = 10) | exact (rfl : _ = 11) | exact (rfl : _ = 12) | exact (rfl : _ = 13) | exact (rfl : _ = 14) | exact (rfl : _ = 15) | exact (rfl : _ = 16) | exact (rfl : _ = 17) | exact (rfl : _ = 18) | exact (rfl : _ = 19) | exact (rfl : _ = 20) | exact (rfl : _ = 21) | exact (rfl : _ = 22) | exact (rfl : _ = 23) | exact (rfl : _ = 24) | exact (rfl : _ = 25)) ?_
    | refine Plan.loadC (key := 1000) (q := 0) rfl rfl rfl rfl rfl rfl (obj_reads1 rfl) (by first | exact Try.underlying3 | exact Try.underlying9 | exact Try.underlying27 | exact Try.underlying4 | exact Try.underlying5 | exact Try.underlying118 | exact Try.underlying25 | exact Try.underlying35 | exact Try.underlying120 | exact Try.underlying23 | exact Try.underlying62) (by rfl) (by decide) ?_
    | refine Plan.loadC (key := 1000) (q := 1) rfl rfl rfl rfl rfl rfl (obj_reads1 rfl) (by first | exact Try.underlying3 | exact Try.underlying9 | exact Try.underlying27 | exact Try.underlying4 | exact Try.underlying5 | exact Try.underlying118 | exact Try.underlying25 | exact Try.underlying35 | exact Try.underlying120 | exact Try.underlying23 | exact Try.underlying62) (by rfl) (by decide) ?_
    | refine Plan.loadC (key := 1000) (q := 2) rfl rfl rfl rfl rfl rfl (obj_reads1 rfl) (by first | exact Try.underlying3 | exact Try.underlying9 | exact Try.underlying27 | exact Try.underlying4 | exact Try.underlying5 | exact Try.underlying118 | exact Try.underlying25 | exact Try.underlying35 | exact Try.underlying120 | exact Try.underlying23 | exact Try.underlying62) (by rfl) (by decide) ?_
    | refine Plan.eqlPtr rfl rfl rfl rfl (by kernel_rfl) ?_
    | refine Plan.neqPtr rfl rfl rfl rfl (by kernel_rfl) ?_
    | refine J.seq (J.region mixed hI (by kernel_rfl) ?_)
    | refine J.region mixed hI (by kernel_rfl) ?_
    | refine J.seq (J.seq (J.region mixed hI (by kernel_rfl) ?_))
    | refine J.condF rfl ?_
    | refine J.condT rfl ?_
    | refine J.skip ?_)
  refine Plan.int (y := ((f + kp : Nat) : Int)) (by omega) ?_
  refine Plan.sliceHi rfl rfl rfl rfl eltB rfl (by omega) ?_
  repeat (first
    | refine Plan.move rfl rfl rfl rfl ?_
    | refine Plan.assign rfl rfl rfl rfl ?_
    | refine Plan.skip rfl rfl ?_
    | refine Plan.extract rfl rfl rfl rfl rfl ?_
    | refine Plan.pick rfl rfl rfl rfl rfl ?_
    | refine Plan.lenStr rfl rfl rfl rfl Try.underlying9 ?_
    | refine Plan.lenE rfl rfl rfl rfl Try.underlying27 ?_
    | (refine Plan.ints rfl rfl rfl rfl rfl rfl ?_; (first | refine Plan.int (i64u8 _) ?_ | refine Plan.int (i64r (by omega)) ?_ | refine Plan.int (u64r (by omega)) ?_ | refine Plan.int (u8r (by omega)) ?_ | refine Plan.int (u16r (by omega)) ?_ | refine Plan.int (quoN (by omega)) ?_ | refine Plan.int (remN _ _) ?_ | refine Plan.int (u8N _) ?_ | skip))
    | refine Plan.un rfl rfl rfl rfl rfl ?_
    | refine Plan.lenB rfl rfl rfl rfl (by first | exact Sub.refl _ | exact Sub.own | exact Sub.old (fun _ h => h) | exact Sub.oldOwn (fun _ h => h) | exact Sub.nilRow | exact Sub.ownLower hB | exact Sub.nilOwn (fun _ h => Nat.le_trans hB h.size)) Try.underlying27 ?_
    | (refine Plan.convInt rfl rfl rfl rfl (by first | exact Try.underlying3 | exact Try.underlying5 | exact Try.underlying118 | exact Try.underlying122 | exact Try.underlying2 | exact Try.underlying100 | exact Try.underlying147 | exact Try.underlying21 | exact Try.underlying25) (by first | exact Try.underlying3 | exact Try.underlying5 | exact Try.underlying118 | exact Try.underlying122 | exact Try.underlying2 | exact Try.underlying100 | exact Try.underlying147 | exact Try.underlying21 | exact Try.underlying25) ?_; (first | refine Plan.int (i64u8 _) ?_ | refine Plan.int (i64r (by omega)) ?_ | refine Plan.int (u64r (by omega)) ?_ | refine Plan.int (u8r (by omega)) ?_ | refine Plan.int (u16r (by omega)) ?_ | refine Plan.int (quoN (by omega)) ?_ | refine Plan.int (remN _ _) ?_ | refine Plan.int (u8N _) ?_ | skip))
    | refine Plan.nilOk rfl rfl rfl rfl ?_
    | refine Plan.fieldC rfl rfl rfl rfl (by first | exact Try.underlying74 | exact Try.underlying71 | exact Try.underlying48 | exact Try.underlying46 | exact Try.underlying42 | exact Try.underlying116 | exact Try.underlying105 | exact Try.underlying124 | exact Try.underlying55 | exact Try.underlying69 | exact Try.underlying51) rfl (by kernel_rfl) (by first | exact (rfl : _ = 0) | exact (rfl : _ = 1) | exact (rfl : _ = 2) | exact (rfl : _ = 3) | exact (rfl : _ = 4) | exact (rfl : _ = 5) | exact (rfl : _ = 6) | exact (rfl : _ = 7) | exact (rfl : _ = 8) | exact (rfl : _ = 9) | exact (rfl : _ = 10) | exact (rfl : _ = 11) | exact (rfl : _ = 12) | exact (rfl : _ = 13) | exact (rfl : _ = 14) | exact (rfl : _ = 15) | exact (rfl : _ = 16) | exact (rfl : _ = 17) | exact (rfl : _ = 18) | exact (rfl : _ = 19) | exact (rfl : _ = 20) | exact (rfl : _ = 21) | exact (rfl : _ = 22) | exact (rfl : _ = 23) | exact (rfl : _ = 24) | exact (rfl : _ = 25)) ?_
    | refine Plan.loadC (key := 1000) (q := 0) rfl rfl rfl rfl rfl rfl (obj_reads1 rfl) (by first | exact Try.underlying3 | exact Try.underlying9 | exact Try.underlying27 | exact Try.underlying4 | exact Try.underlying5 | exact Try.underlying118 | exact Try.underlying25 | exact Try.underlying35 | exact Try.underlying120 | exact Try.underlying23 | exact Try.underlying62) (by rfl) (by decide) ?_
    | refine Plan.loadC (key := 1000) (q := 1) rfl rfl rfl rfl rfl rfl (obj_reads1 rfl) (by first | exact Try.underlying3 | exact Try.underlying9 | exact Try.underlying27 | exact Try.underlying4 | exact Try.underlying5 | exact Try.underlying118 | exact Try.underlying25 | exact Try.underlying35 | exact Try.underlying120 | exact Try.underlying23 | exact Try.underlying62) (by rfl) (by decide) ?_
    | refine Plan.loadC (key := 1000) (q := 2) rfl rfl rfl rfl rfl rfl (obj_reads1 rfl) (by first | exact Try.underlying3 | exact Try.underlying9 | exact Try.underlying27 | exact Try.underlying4 | exact Try.underlying5 | exact Try.underlying118 | exact Try.underlying25 | exact Try.underlying35 | exact Try.underlying120 | exact Try.underlying23 | exact Try.underlying62) (by rfl) (by decide) ?_
    | refine Plan.eqlPtr rfl rfl rfl rfl (by kernel_rfl) ?_
    | refine Plan.neqPtr rfl rfl rfl rfl (by kernel_rfl) ?_
    | refine J.seq (J.region mixed hI (by kernel_rfl) ?_)
    | refine J.region mixed hI (by kernel_rfl) ?_
    | refine J.seq (J.seq (J.region mixed hI (by kernel_rfl) ?_))
    | refine J.condF rfl ?_
    | refine J.condT rfl ?_
    | refine J.skip ?_)
  refine Plan.storeC (key := 1000) (q := 0) rfl rfl rfl rfl rfl rfl (by simp [Value.cells, Value.oneCell']) (by kernel_rfl) rfl hA rfl (obj_pat1 (Nat.le_of_ble_eq_true rfl)) ?_
  have hbt : List.take ((f + kp) * 1) (bs l) = bs (l.take f ++ (l.drop f).take kp) := by rw [← List.take_add, Nat.mul_one]; simp [bs, List.map_take]
  refine J.convC (key := 1000) (q := 1) rfl rfl (Ent.rowCut (m := f + kp) (by omega)) ?_
  rw [hbt]
  obtain ⟨t0, ht0⟩ : ∃ t0, t0 = (l.drop f).take kp := ⟨_, rfl⟩
  have ht0l : t0.length = kp := by rw [ht0, List.length_take, List.length_drop]; omega
  have hcr : crashOf l f keep at_ turn = l.take f ++ tailOf t0 at_ turn := by unfold crashOf; rw [← hkp, ← ht0]
  have hcrl : (crashOf l f keep at_ turn).length = f + kp := by rw [hcr, List.length_append, tail_length, ht0l, List.length_take]; omega
  have hclose : ∀ B : Option Addr, Ent (allC [obj β [.slice B (f + kp) cap, .int .i64 f, .int .i64 r], rowC 5 1 B (f + kp) cap (bs (l.take f ++ tailOf t0 at_ turn))]) (diskC β (crashOf l f keep at_ turn) f r) := by
    intro B
    have h9 := disk_close (l := crashOf l f keep at_ turn) (B := B) (cap := cap) (f := f) (r := r) (β := β)
    simp only [rowB, hcrl] at h9
    rw [hcr] at h9
    rw [hcr]
    exact h9
  rw [← ht0]
  repeat (first
    | refine Plan.move rfl rfl rfl rfl ?_
    | refine Plan.assign rfl rfl rfl rfl ?_
    | refine Plan.skip rfl rfl ?_
    | refine Plan.extract rfl rfl rfl rfl rfl ?_
    | refine Plan.pick rfl rfl rfl rfl rfl ?_
    | refine Plan.lenStr rfl rfl rfl rfl Try.underlying9 ?_
    | refine Plan.lenE rfl rfl rfl rfl Try.underlying27 ?_
    | (refine Plan.ints rfl rfl rfl rfl rfl rfl ?_; (first | refine Plan.int (i64u8 _) ?_ | refine Plan.int (i64r (by omega)) ?_ | refine Plan.int (u64r (by omega)) ?_ | refine Plan.int (u8r (by omega)) ?_ | refine Plan.int (u16r (by omega)) ?_ | refine Plan.int (quoN (by omega)) ?_ | refine Plan.int (remN _ _) ?_ | refine Plan.int (u8N _) ?_ | skip))
    | refine Plan.un rfl rfl rfl rfl rfl ?_
    | refine Plan.lenB rfl rfl rfl rfl (by first | exact Sub.refl _ | exact Sub.own | exact Sub.old (fun _ h => h) | exact Sub.oldOwn (fun _ h => h) | exact Sub.nilRow | exact Sub.ownLower hB | exact Sub.nilOwn (fun _ h => Nat.le_trans hB h.size)) Try.underlying27 ?_
    | (refine Plan.convInt rfl rfl rfl rfl (by first | exact Try.underlying3 | exact Try.underlying5 | exact Try.underlying118 | exact Try.underlying122 | exact Try.underlying2 | exact Try.underlying100 | exact Try.underlying147 | exact Try.underlying21 | exact Try.underlying25) (by first | exact Try.underlying3 | exact Try.underlying5 | exact Try.underlying118 | exact Try.underlying122 | exact Try.underlying2 | exact Try.underlying100 | exact Try.underlying147 | exact Try.underlying21 | exact Try.underlying25) ?_; (first | refine Plan.int (i64u8 _) ?_ | refine Plan.int (i64r (by omega)) ?_ | refine Plan.int (u64r (by omega)) ?_ | refine Plan.int (u8r (by omega)) ?_ | refine Plan.int (u16r (by omega)) ?_ | refine Plan.int (quoN (by omega)) ?_ | refine Plan.int (remN _ _) ?_ | refine Plan.int (u8N _) ?_ | skip))
    | refine Plan.nilOk rfl rfl rfl rfl ?_
    | refine Plan.fieldC rfl rfl rfl rfl (by first | exact Try.underlying74 | exact Try.underlying71 | exact Try.underlying48 | exact Try.underlying46 | exact Try.underlying42 | exact Try.underlying116 | exact Try.underlying105 | exact Try.underlying124 | exact Try.underlying55 | exact Try.underlying69 | exact Try.underlying51) rfl (by kernel_rfl) (by first | exact (rfl : _ = 0) | exact (rfl : _ = 1) | exact (rfl : _ = 2) | exact (rfl : _ = 3) | exact (rfl : _ = 4) | exact (rfl : _ = 5) | exact (rfl : _ = 6) | exact (rfl : _ = 7) | exact (rfl : _ = 8) | exact (rfl : _ = 9) | exact (rfl : _ = 10) | exact (rfl : _ = 11) | exact (rfl : _ = 12) | exact (rfl : _ = 13) | exact (rfl : _ = 14) | exact (rfl : _ = 15) | exact (rfl : _ = 16) | exact (rfl : _ = 17) | exact (rfl : _ = 18) | exact (rfl : _ = 19) | exact (rfl : _ = 20) | exact (rfl : _ = 21) | exact (rfl : _ = 22) | exact (rfl : _ = 23) | exact (rfl : _ = 24) | exact (rfl : _ = 25)) ?_
    | refine Plan.loadC (key := 1000) (q := 0) rfl rfl rfl rfl rfl rfl (obj_reads1 rfl) (by first | exact Try.underlying3 | exact Try.underlying9 | exact Try.underlying27 | exact Try.underlying4 | exact Try.underlying5 | exact Try.underlying118 | exact Try.underlying25 | exact Try.underlying35 | exact Try.underlying120 | exact Try.underlying23 | exact Try.underlying62) (by rfl) (by decide) ?_
    | refine Plan.loadC (key := 1000) (q := 1) rfl rfl rfl rfl rfl rfl (obj_reads1 rfl) (by first | exact Try.underlying3 | exact Try.underlying9 | exact Try.underlying27 | exact Try.underlying4 | exact Try.underlying5 | exact Try.underlying118 | exact Try.underlying25 | exact Try.underlying35 | exact Try.underlying120 | exact Try.underlying23 | exact Try.underlying62) (by rfl) (by decide) ?_
    | refine Plan.loadC (key := 1000) (q := 2) rfl rfl rfl rfl rfl rfl (obj_reads1 rfl) (by first | exact Try.underlying3 | exact Try.underlying9 | exact Try.underlying27 | exact Try.underlying4 | exact Try.underlying5 | exact Try.underlying118 | exact Try.underlying25 | exact Try.underlying35 | exact Try.underlying120 | exact Try.underlying23 | exact Try.underlying62) (by rfl) (by decide) ?_
    | refine Plan.eqlPtr rfl rfl rfl rfl (by kernel_rfl) ?_
    | refine Plan.neqPtr rfl rfl rfl rfl (by kernel_rfl) ?_
    | refine J.seq (J.region mixed hI (by kernel_rfl) ?_)
    | refine J.region mixed hI (by kernel_rfl) ?_
    | refine J.seq (J.seq (J.region mixed hI (by kernel_rfl) ?_))
    | refine J.condF rfl ?_
    | refine J.condT rfl ?_
    | refine J.skip ?_)
  by_cases h2 : 2 ≤ kp
  · rcases hB with ⟨_, _, h0⟩ | ⟨g, rfl⟩
    · omega
    refine Plan.sliceLo rfl rfl rfl rfl eltB rfl (by omega) (by omega) (by omega) ?_
    repeat (first
    | refine Plan.move rfl rfl rfl rfl ?_
    | refine Plan.assign rfl rfl rfl rfl ?_
    | refine Plan.skip rfl rfl ?_
    | refine Plan.extract rfl rfl rfl rfl rfl ?_
    | refine Plan.pick rfl rfl rfl rfl rfl ?_
    | refine Plan.lenStr rfl rfl rfl rfl Try.underlying9 ?_
    | refine Plan.lenE rfl rfl rfl rfl Try.underlying27 ?_
    | (refine Plan.ints rfl rfl rfl rfl rfl rfl ?_; (first | refine Plan.int (i64u8 _) ?_ | refine Plan.int (i64r (by omega)) ?_ | refine Plan.int (u64r (by omega)) ?_ | refine Plan.int (u8r (by omega)) ?_ | refine Plan.int (u16r (by omega)) ?_ | refine Plan.int (quoN (by omega)) ?_ | refine Plan.int (remN _ _) ?_ | refine Plan.int (u8N _) ?_ | skip))
    | refine Plan.un rfl rfl rfl rfl rfl ?_
    | refine Plan.lenB rfl rfl rfl rfl (by first | exact Sub.refl _ | exact Sub.own | exact Sub.old (fun _ h => h) | exact Sub.oldOwn (fun _ h => h) | exact Sub.nilRow | exact Sub.ownLower hB | exact Sub.nilOwn (fun _ h => Nat.le_trans hB h.size)) Try.underlying27 ?_
    | (refine Plan.convInt rfl rfl rfl rfl (by first | exact Try.underlying3 | exact Try.underlying5 | exact Try.underlying118 | exact Try.underlying122 | exact Try.underlying2 | exact Try.underlying100 | exact Try.underlying147 | exact Try.underlying21 | exact Try.underlying25) (by first | exact Try.underlying3 | exact Try.underlying5 | exact Try.underlying118 | exact Try.underlying122 | exact Try.underlying2 | exact Try.underlying100 | exact Try.underlying147 | exact Try.underlying21 | exact Try.underlying25) ?_; (first | refine Plan.int (i64u8 _) ?_ | refine Plan.int (i64r (by omega)) ?_ | refine Plan.int (u64r (by omega)) ?_ | refine Plan.int (u8r (by omega)) ?_ | refine Plan.int (u16r (by omega)) ?_ | refine Plan.int (quoN (by omega)) ?_ | refine Plan.int (remN _ _) ?_ | refine Plan.int (u8N _) ?_ | skip))
    | refine Plan.nilOk rfl rfl rfl rfl ?_
    | refine Plan.fieldC rfl rfl rfl rfl (by first | exact Try.underlying74 | exact Try.underlying71 | exact Try.underlying48 | exact Try.underlying46 | exact Try.underlying42 | exact Try.underlying116 | exact Try.underlying105 | exact Try.underlying124 | exact Try.underlying55 | exact Try.underlying69 | exact Try.underlying51) rfl (by kernel_rfl) (by first | exact (rfl : _ = 0) | exact (rfl : _ = 1) | exact (rfl : _ = 2) | exact (rfl : _ = 3) | exact (rfl : _ = 4) | exact (rfl : _ = 5) | exact (rfl : _ = 6) | exact (rfl : _ = 7) | exact (rfl : _ = 8) | exact (rfl : _ = 9) | exact (rfl : _ = 10) | exact (rfl : _ = 11) | exact (rfl : _ = 12) | exact (rfl : _ = 13) | exact (rfl : _ = 14) | exact (rfl : _ = 15) | exact (rfl : _ = 16) | exact (rfl : _ = 17) | exact (rfl : _ = 18) | exact (rfl : _ = 19) | exact (rfl : _ = 20) | exact (rfl : _ = 21) | exact (rfl : _ = 22) | exact (rfl : _ = 23) | exact (rfl : _ = 24) | exact (rfl : _ = 25)) ?_
    | refine Plan.loadC (key := 1000) (q := 0) rfl rfl rfl rfl rfl rfl (obj_reads1 rfl) (by first | exact Try.underlying3 | exact Try.underlying9 | exact Try.underlying27 | exact Try.underlying4 | exact Try.underlying5 | exact Try.underlying118 | exact Try.underlying25 | exact Try.underlying35 | exact Try.underlying120 | exact Try.underlying23 | exact Try.underlying62) (by rfl) (by decide) ?_
    | refine Plan.loadC (key := 1000) (q := 1) rfl rfl rfl rfl rfl rfl (obj_reads1 rfl) (by first | exact Try.underlying3 | exact Try.underlying9 | exact Try.underlying27 | exact Try.underlying4 | exact Try.underlying5 | exact Try.underlying118 | exact Try.underlying25 | exact Try.underlying35 | exact Try.underlying120 | exact Try.underlying23 | exact Try.underlying62) (by rfl) (by decide) ?_
    | refine Plan.loadC (key := 1000) (q := 2) rfl rfl rfl rfl rfl rfl (obj_reads1 rfl) (by first | exact Try.underlying3 | exact Try.underlying9 | exact Try.underlying27 | exact Try.underlying4 | exact Try.underlying5 | exact Try.underlying118 | exact Try.underlying25 | exact Try.underlying35 | exact Try.underlying120 | exact Try.underlying23 | exact Try.underlying62) (by rfl) (by decide) ?_
    | refine Plan.eqlPtr rfl rfl rfl rfl (by kernel_rfl) ?_
    | refine Plan.neqPtr rfl rfl rfl rfl (by kernel_rfl) ?_
    | refine J.seq (J.region mixed hI (by kernel_rfl) ?_)
    | refine J.region mixed hI (by kernel_rfl) ?_
    | refine J.seq (J.seq (J.region mixed hI (by kernel_rfl) ?_))
    | refine J.condF rfl ?_
    | refine J.condT rfl ?_
    | refine J.skip ?_)
    refine J.condD rfl (fun h3 => ?_) (fun h3 => ?_)
    rotate_left
    · omega
    · repeat (first
    | refine Plan.move rfl rfl rfl rfl ?_
    | refine Plan.assign rfl rfl rfl rfl ?_
    | refine Plan.skip rfl rfl ?_
    | refine Plan.extract rfl rfl rfl rfl rfl ?_
    | refine Plan.pick rfl rfl rfl rfl rfl ?_
    | refine Plan.lenStr rfl rfl rfl rfl Try.underlying9 ?_
    | refine Plan.lenE rfl rfl rfl rfl Try.underlying27 ?_
    | (refine Plan.ints rfl rfl rfl rfl rfl rfl ?_; (first | refine Plan.int (i64u8 _) ?_ | refine Plan.int (i64r (by omega)) ?_ | refine Plan.int (u64r (by omega)) ?_ | refine Plan.int (u8r (by omega)) ?_ | refine Plan.int (u16r (by omega)) ?_ | refine Plan.int (quoN (by omega)) ?_ | refine Plan.int (remN _ _) ?_ | refine Plan.int (u8N _) ?_ | skip))
    | refine Plan.un rfl rfl rfl rfl rfl ?_
    | refine Plan.lenB rfl rfl rfl rfl (by first | exact Sub.refl _ | exact Sub.own | exact Sub.old (fun _ h => h) | exact Sub.oldOwn (fun _ h => h) | exact Sub.nilRow | exact Sub.ownLower hB | exact Sub.nilOwn (fun _ h => Nat.le_trans hB h.size)) Try.underlying27 ?_
    | (refine Plan.convInt rfl rfl rfl rfl (by first | exact Try.underlying3 | exact Try.underlying5 | exact Try.underlying118 | exact Try.underlying122 | exact Try.underlying2 | exact Try.underlying100 | exact Try.underlying147 | exact Try.underlying21 | exact Try.underlying25) (by first | exact Try.underlying3 | exact Try.underlying5 | exact Try.underlying118 | exact Try.underlying122 | exact Try.underlying2 | exact Try.underlying100 | exact Try.underlying147 | exact Try.underlying21 | exact Try.underlying25) ?_; (first | refine Plan.int (i64u8 _) ?_ | refine Plan.int (i64r (by omega)) ?_ | refine Plan.int (u64r (by omega)) ?_ | refine Plan.int (u8r (by omega)) ?_ | refine Plan.int (u16r (by omega)) ?_ | refine Plan.int (quoN (by omega)) ?_ | refine Plan.int (remN _ _) ?_ | refine Plan.int (u8N _) ?_ | skip))
    | refine Plan.nilOk rfl rfl rfl rfl ?_
    | refine Plan.fieldC rfl rfl rfl rfl (by first | exact Try.underlying74 | exact Try.underlying71 | exact Try.underlying48 | exact Try.underlying46 | exact Try.underlying42 | exact Try.underlying116 | exact Try.underlying105 | exact Try.underlying124 | exact Try.underlying55 | exact Try.underlying69 | exact Try.underlying51) rfl (by kernel_rfl) (by first | exact (rfl : _ = 0) | exact (rfl : _ = 1) | exact (rfl : _ = 2) | exact (rfl : _ = 3) | exact (rfl : _ = 4) | exact (rfl : _ = 5) | exact (rfl : _ = 6) | exact (rfl : _ = 7) | exact (rfl : _ = 8) | exact (rfl : _ = 9) | exact (rfl : _ = 10) | exact (rfl : _ = 11) | exact (rfl : _ = 12) | exact (rfl : _ = 13) | exact (rfl : _ = 14) | exact (rfl : _ = 15) | exact (rfl : _ = 16) | exact (rfl : _ = 17) | exact (rfl : _ = 18) | exact (rfl : _ = 19) | exact (rfl : _ = 20) | exact (rfl : _ = 21) | exact (rfl : _ = 22) | exact (rfl : _ = 23) | exact (rfl : _ = 24) | exact (rfl : _ = 25)) ?_
    | refine Plan.loadC (key := 1000) (q := 0) rfl rfl rfl rfl rfl rfl (obj_reads1 rfl) (by first | exact Try.underlying3 | exact Try.underlying9 | exact Try.underlying27 | exact Try.underlying4 | exact Try.underlying5 | exact Try.underlying118 | exact Try.underlying25 | exact Try.underlying35 | exact Try.underlying120 | exact Try.underlying23 | exact Try.underlying62) (by rfl) (by decide) ?_
    | refine Plan.loadC (key := 1000) (q := 1) rfl rfl rfl rfl rfl rfl (obj_reads1 rfl) (by first | exact Try.underlying3 | exact Try.underlying9 | exact Try.underlying27 | exact Try.underlying4 | exact Try.underlying5 | exact Try.underlying118 | exact Try.underlying25 | exact Try.underlying35 | exact Try.underlying120 | exact Try.underlying23 | exact Try.underlying62) (by rfl) (by decide) ?_
    | refine Plan.loadC (key := 1000) (q := 2) rfl rfl rfl rfl rfl rfl (obj_reads1 rfl) (by first | exact Try.underlying3 | exact Try.underlying9 | exact Try.underlying27 | exact Try.underlying4 | exact Try.underlying5 | exact Try.underlying118 | exact Try.underlying25 | exact Try.underlying35 | exact Try.underlying120 | exact Try.underlying23 | exact Try.underlying62) (by rfl) (by decide) ?_
    | refine Plan.eqlPtr rfl rfl rfl rfl (by kernel_rfl) ?_
    | refine Plan.neqPtr rfl rfl rfl rfl (by kernel_rfl) ?_
    | refine J.seq (J.region mixed hI (by kernel_rfl) ?_)
    | refine J.region mixed hI (by kernel_rfl) ?_
    | refine J.seq (J.seq (J.region mixed hI (by kernel_rfl) ?_))
    | refine J.condF rfl ?_
    | refine J.condT rfl ?_
    | refine J.skip ?_)
      refine Plan.call (B := 0) rfl rfl rfl (disk_rest at_ (8 * (kp : Int) - 15) (by omega)) Try.func41 rfl rfl (fun _ _ => Nat.zero_le _) (by repeat (first | exact Opnds.nil | refine Opnds.cons rfl (by first | exact Sub.refl _ | exact Sub.own | exact Sub.old (fun _ h => h) | exact Sub.oldOwn (fun _ h => h) | exact Sub.nilRow | exact Sub.exIn hbe) ?_)) ?_
      obtain ⟨p, hp⟩ : ∃ p : Nat, (p : Int) = at_ % (8 * (kp : Int) - 15) := ⟨(at_ % (8 * (kp : Int) - 15)).toNat, Int.toNat_of_nonneg (Int.emod_nonneg _ (by omega))⟩
      have hpl : p < 8 * kp - 15 := by
        have := Int.emod_lt_of_pos at_ (show (0 : Int) < 8 * (kp : Int) - 15 by omega)
        omega
      rw [← hp]
      obtain ⟨m, hm⟩ : ∃ m : Nat, (m : Int) = turn % 65536 := ⟨(turn % 65536).toNat, Int.toNat_of_nonneg (Int.emod_nonneg _ (by omega))⟩
      have hml : m < 65536 := by
        have := Int.emod_lt_of_pos turn (show (0 : Int) < 65536 by omega)
        omega
      have htail : tailOf t0 at_ turn = flips t0 p m 16 := by
        unfold tailOf
        rw [ht0l, if_pos h2, show ((8 * kp : Nat) : Int) - 15 = 8 * (kp : Int) - 15 by omega, ← hp, ← hm]
        rfl
      repeat (first
    | refine Plan.move rfl rfl rfl rfl ?_
    | refine Plan.assign rfl rfl rfl rfl ?_
    | refine Plan.skip rfl rfl ?_
    | refine Plan.extract rfl rfl rfl rfl rfl ?_
    | refine Plan.pick rfl rfl rfl rfl rfl ?_
    | refine Plan.lenStr rfl rfl rfl rfl Try.underlying9 ?_
    | refine Plan.lenE rfl rfl rfl rfl Try.underlying27 ?_
    | (refine Plan.ints rfl rfl rfl rfl rfl rfl ?_; (first | refine Plan.int (i64u8 _) ?_ | refine Plan.int (i64r (by omega)) ?_ | refine Plan.int (u64r (by omega)) ?_ | refine Plan.int (u8r (by omega)) ?_ | refine Plan.int (u16r (by omega)) ?_ | refine Plan.int (quoN (by omega)) ?_ | refine Plan.int (remN _ _) ?_ | refine Plan.int (u8N _) ?_ | skip))
    | refine Plan.un rfl rfl rfl rfl rfl ?_
    | refine Plan.lenB rfl rfl rfl rfl (by first | exact Sub.refl _ | exact Sub.own | exact Sub.old (fun _ h => h) | exact Sub.oldOwn (fun _ h => h) | exact Sub.nilRow | exact Sub.ownLower hB | exact Sub.nilOwn (fun _ h => Nat.le_trans hB h.size)) Try.underlying27 ?_
    | (refine Plan.convInt rfl rfl rfl rfl (by first | exact Try.underlying3 | exact Try.underlying5 | exact Try.underlying118 | exact Try.underlying122 | exact Try.underlying2 | exact Try.underlying100 | exact Try.underlying147 | exact Try.underlying21 | exact Try.underlying25) (by first | exact Try.underlying3 | exact Try.underlying5 | exact Try.underlying118 | exact Try.underlying122 | exact Try.underlying2 | exact Try.underlying100 | exact Try.underlying147 | exact Try.underlying21 | exact Try.underlying25) ?_; (first | refine Plan.int (i64u8 _) ?_ | refine Plan.int (i64r (by omega)) ?_ | refine Plan.int (u64r (by omega)) ?_ | refine Plan.int (u8r (by omega)) ?_ | refine Plan.int (u16r (by omega)) ?_ | refine Plan.int (quoN (by omega)) ?_ | refine Plan.int (remN _ _) ?_ | refine Plan.int (u8N _) ?_ | skip))
    | refine Plan.nilOk rfl rfl rfl rfl ?_
    | refine Plan.fieldC rfl rfl rfl rfl (by first | exact Try.underlying74 | exact Try.underlying71 | exact Try.underlying48 | exact Try.underlying46 | exact Try.underlying42 | exact Try.underlying116 | exact Try.underlying105 | exact Try.underlying124 | exact Try.underlying55 | exact Try.underlying69 | exact Try.underlying51) rfl (by kernel_rfl) (by first | exact (rfl : _ = 0) | exact (rfl : _ = 1) | exact (rfl : _ = 2) | exact (rfl : _ = 3) | exact (rfl : _ = 4) | exact (rfl : _ = 5) | exact (rfl : _ = 6) | exact (rfl : _ = 7) | exact (rfl : _ = 8) | exact (rfl : _ = 9) | exact (rfl : _ = 10) | exact (rfl : _ = 11) | exact (rfl : _ = 12) | exact (rfl : _ = 13) | exact (rfl : _ = 14) | exact (rfl : _ = 15) | exact (rfl : _ = 16) | exact (rfl : _ = 17) | exact (rfl : _ = 18) | exact (rfl : _ = 19) | exact (rfl : _ = 20) | exact (rfl : _ = 21) | exact (rfl : _ = 22) | exact (rfl : _ = 23) | exact (rfl : _ = 24) | exact (rfl : _ = 25)) ?_
    | refine Plan.loadC (key := 1000) (q := 0) rfl rfl rfl rfl rfl rfl (obj_reads1 rfl) (by first | exact Try.underlying3 | exact Try.underlying9 | exact Try.underlying27 | exact Try.underlying4 | exact Try.underlying5 | exact Try.underlying118 | exact Try.underlying25 | exact Try.underlying35 | exact Try.underlying120 | exact Try.underlying23 | exact Try.underlying62) (by rfl) (by decide) ?_
    | refine Plan.loadC (key := 1000) (q := 1) rfl rfl rfl rfl rfl rfl (obj_reads1 rfl) (by first | exact Try.underlying3 | exact Try.underlying9 | exact Try.underlying27 | exact Try.underlying4 | exact Try.underlying5 | exact Try.underlying118 | exact Try.underlying25 | exact Try.underlying35 | exact Try.underlying120 | exact Try.underlying23 | exact Try.underlying62) (by rfl) (by decide) ?_
    | refine Plan.loadC (key := 1000) (q := 2) rfl rfl rfl rfl rfl rfl (obj_reads1 rfl) (by first | exact Try.underlying3 | exact Try.underlying9 | exact Try.underlying27 | exact Try.underlying4 | exact Try.underlying5 | exact Try.underlying118 | exact Try.underlying25 | exact Try.underlying35 | exact Try.underlying120 | exact Try.underlying23 | exact Try.underlying62) (by rfl) (by decide) ?_
    | refine Plan.eqlPtr rfl rfl rfl rfl (by kernel_rfl) ?_
    | refine Plan.neqPtr rfl rfl rfl rfl (by kernel_rfl) ?_
    | refine J.seq (J.region mixed hI (by kernel_rfl) ?_)
    | refine J.region mixed hI (by kernel_rfl) ?_
    | refine J.seq (J.seq (J.region mixed hI (by kernel_rfl) ?_))
    | refine J.condF rfl ?_
    | refine J.condT rfl ?_
    | refine J.skip ?_)
      refine J.block (J.loop (crashE β g cap f kp r p m turn (fun b => F b ∨ w0.heap.size ≤ b) (l.take f) t0) (fun i => i ≤ 16) (fun i => 16 - i) 0 (Nat.zero_le _) ?_ ?_)
      · repeat (first | exact Weak.nil | refine Weak.cons rfl (Sub.refl _) ?_)
      intro i hi
      have hfl := flips_length t0 p m i
      repeat (first
    | refine Plan.move rfl rfl rfl rfl ?_
    | refine Plan.assign rfl rfl rfl rfl ?_
    | refine Plan.skip rfl rfl ?_
    | refine Plan.extract rfl rfl rfl rfl rfl ?_
    | refine Plan.pick rfl rfl rfl rfl rfl ?_
    | refine Plan.lenStr rfl rfl rfl rfl Try.underlying9 ?_
    | refine Plan.lenE rfl rfl rfl rfl Try.underlying27 ?_
    | (refine Plan.ints rfl rfl rfl rfl rfl rfl ?_; (first | refine Plan.int (i64u8 _) ?_ | refine Plan.int (i64r (by omega)) ?_ | refine Plan.int (u64r (by omega)) ?_ | refine Plan.int (u8r (by omega)) ?_ | refine Plan.int (u16r (by omega)) ?_ | refine Plan.int (quoN (by omega)) ?_ | refine Plan.int (remN _ _) ?_ | refine Plan.int (u8N _) ?_ | skip))
    | refine Plan.un rfl rfl rfl rfl rfl ?_
    | refine Plan.lenB rfl rfl rfl rfl (by first | exact Sub.refl _ | exact Sub.own | exact Sub.old (fun _ h => h) | exact Sub.oldOwn (fun _ h => h) | exact Sub.nilRow | exact Sub.ownLower hB | exact Sub.nilOwn (fun _ h => Nat.le_trans hB h.size)) Try.underlying27 ?_
    | (refine Plan.convInt rfl rfl rfl rfl (by first | exact Try.underlying3 | exact Try.underlying5 | exact Try.underlying118 | exact Try.underlying122 | exact Try.underlying2 | exact Try.underlying100 | exact Try.underlying147 | exact Try.underlying21 | exact Try.underlying25) (by first | exact Try.underlying3 | exact Try.underlying5 | exact Try.underlying118 | exact Try.underlying122 | exact Try.underlying2 | exact Try.underlying100 | exact Try.underlying147 | exact Try.underlying21 | exact Try.underlying25) ?_; (first | refine Plan.int (i64u8 _) ?_ | refine Plan.int (i64r (by omega)) ?_ | refine Plan.int (u64r (by omega)) ?_ | refine Plan.int (u8r (by omega)) ?_ | refine Plan.int (u16r (by omega)) ?_ | refine Plan.int (quoN (by omega)) ?_ | refine Plan.int (remN _ _) ?_ | refine Plan.int (u8N _) ?_ | skip))
    | refine Plan.nilOk rfl rfl rfl rfl ?_
    | refine Plan.fieldC rfl rfl rfl rfl (by first | exact Try.underlying74 | exact Try.underlying71 | exact Try.underlying48 | exact Try.underlying46 | exact Try.underlying42 | exact Try.underlying116 | exact Try.underlying105 | exact Try.underlying124 | exact Try.underlying55 | exact Try.underlying69 | exact Try.underlying51) rfl (by kernel_rfl) (by first | exact (rfl : _ = 0) | exact (rfl : _ = 1) | exact (rfl : _ = 2) | exact (rfl : _ = 3) | exact (rfl : _ = 4) | exact (rfl : _ = 5) | exact (rfl : _ = 6) | exact (rfl : _ = 7) | exact (rfl : _ = 8) | exact (rfl : _ = 9) | exact (rfl : _ = 10) | exact (rfl : _ = 11) | exact (rfl : _ = 12) | exact (rfl : _ = 13) | exact (rfl : _ = 14) | exact (rfl : _ = 15) | exact (rfl : _ = 16) | exact (rfl : _ = 17) | exact (rfl : _ = 18) | exact (rfl : _ = 19) | exact (rfl : _ = 20) | exact (rfl : _ = 21) | exact (rfl : _ = 22) | exact (rfl : _ = 23) | exact (rfl : _ = 24) | exact (rfl : _ = 25)) ?_
    | refine Plan.loadC (key := 1000) (q := 0) rfl rfl rfl rfl rfl rfl (obj_reads1 rfl) (by first | exact Try.underlying3 | exact Try.underlying9 | exact Try.underlying27 | exact Try.underlying4 | exact Try.underlying5 | exact Try.underlying118 | exact Try.underlying25 | exact Try.underlying35 | exact Try.underlying120 | exact Try.underlying23 | exact Try.underlying62) (by rfl) (by decide) ?_
    | refine Plan.loadC (key := 1000) (q := 1) rfl rfl rfl rfl rfl rfl (obj_reads1 rfl) (by first | exact Try.underlying3 | exact Try.underlying9 | exact Try.underlying27 | exact Try.underlying4 | exact Try.underlying5 | exact Try.underlying118 | exact Try.underlying25 | exact Try.underlying35 | exact Try.underlying120 | exact Try.underlying23 | exact Try.underlying62) (by rfl) (by decide) ?_
    | refine Plan.loadC (key := 1000) (q := 2) rfl rfl rfl rfl rfl rfl (obj_reads1 rfl) (by first | exact Try.underlying3 | exact Try.underlying9 | exact Try.underlying27 | exact Try.underlying4 | exact Try.underlying5 | exact Try.underlying118 | exact Try.underlying25 | exact Try.underlying35 | exact Try.underlying120 | exact Try.underlying23 | exact Try.underlying62) (by rfl) (by decide) ?_
    | refine Plan.eqlPtr rfl rfl rfl rfl (by kernel_rfl) ?_
    | refine Plan.neqPtr rfl rfl rfl rfl (by kernel_rfl) ?_
    | refine J.seq (J.region mixed hI (by kernel_rfl) ?_)
    | refine J.region mixed hI (by kernel_rfl) ?_
    | refine J.seq (J.seq (J.region mixed hI (by kernel_rfl) ?_))
    | refine J.condF rfl ?_
    | refine J.condT rfl ?_
    | refine J.skip ?_)
      refine J.seq (J.condD rfl (fun hlt => ?_) (fun hlt => ?_))
      · have hlt' : i < 16 := by omega
        repeat (first
    | refine Plan.move rfl rfl rfl rfl ?_
    | refine Plan.assign rfl rfl rfl rfl ?_
    | refine Plan.skip rfl rfl ?_
    | refine Plan.extract rfl rfl rfl rfl rfl ?_
    | refine Plan.pick rfl rfl rfl rfl rfl ?_
    | refine Plan.lenStr rfl rfl rfl rfl Try.underlying9 ?_
    | refine Plan.lenE rfl rfl rfl rfl Try.underlying27 ?_
    | (refine Plan.ints rfl rfl rfl rfl rfl rfl ?_; (first | refine Plan.int (i64u8 _) ?_ | refine Plan.int (i64r (by omega)) ?_ | refine Plan.int (u64r (by omega)) ?_ | refine Plan.int (u8r (by omega)) ?_ | refine Plan.int (u16r (by omega)) ?_ | refine Plan.int (quoN (by omega)) ?_ | refine Plan.int (remN _ _) ?_ | refine Plan.int (u8N _) ?_ | skip))
    | refine Plan.un rfl rfl rfl rfl rfl ?_
    | refine Plan.lenB rfl rfl rfl rfl (by first | exact Sub.refl _ | exact Sub.own | exact Sub.old (fun _ h => h) | exact Sub.oldOwn (fun _ h => h) | exact Sub.nilRow | exact Sub.ownLower hB | exact Sub.nilOwn (fun _ h => Nat.le_trans hB h.size)) Try.underlying27 ?_
    | (refine Plan.convInt rfl rfl rfl rfl (by first | exact Try.underlying3 | exact Try.underlying5 | exact Try.underlying118 | exact Try.underlying122 | exact Try.underlying2 | exact Try.underlying100 | exact Try.underlying147 | exact Try.underlying21 | exact Try.underlying25) (by first | exact Try.underlying3 | exact Try.underlying5 | exact Try.underlying118 | exact Try.underlying122 | exact Try.underlying2 | exact Try.underlying100 | exact Try.underlying147 | exact Try.underlying21 | exact Try.underlying25) ?_; (first | refine Plan.int (i64u8 _) ?_ | refine Plan.int (i64r (by omega)) ?_ | refine Plan.int (u64r (by omega)) ?_ | refine Plan.int (u8r (by omega)) ?_ | refine Plan.int (u16r (by omega)) ?_ | refine Plan.int (quoN (by omega)) ?_ | refine Plan.int (remN _ _) ?_ | refine Plan.int (u8N _) ?_ | skip))
    | refine Plan.nilOk rfl rfl rfl rfl ?_
    | refine Plan.fieldC rfl rfl rfl rfl (by first | exact Try.underlying74 | exact Try.underlying71 | exact Try.underlying48 | exact Try.underlying46 | exact Try.underlying42 | exact Try.underlying116 | exact Try.underlying105 | exact Try.underlying124 | exact Try.underlying55 | exact Try.underlying69 | exact Try.underlying51) rfl (by kernel_rfl) (by first | exact (rfl : _ = 0) | exact (rfl : _ = 1) | exact (rfl : _ = 2) | exact (rfl : _ = 3) | exact (rfl : _ = 4) | exact (rfl : _ = 5) | exact (rfl : _ = 6) | exact (rfl : _ = 7) | exact (rfl : _ = 8) | exact (rfl : _ = 9) | exact (rfl : _ = 10) | exact (rfl : _ = 11) | exact (rfl : _ = 12) | exact (rfl : _ = 13) | exact (rfl : _ = 14) | exact (rfl : _ = 15) | exact (rfl : _ = 16) | exact (rfl : _ = 17) | exact (rfl : _ = 18) | exact (rfl : _ = 19) | exact (rfl : _ = 20) | exact (rfl : _ = 21) | exact (rfl : _ = 22) | exact (rfl : _ = 23) | exact (rfl : _ = 24) | exact (rfl : _ = 25)) ?_
    | refine Plan.loadC (key := 1000) (q := 0) rfl rfl rfl rfl rfl rfl (obj_reads1 rfl) (by first | exact Try.underlying3 | exact Try.underlying9 | exact Try.underlying27 | exact Try.underlying4 | exact Try.underlying5 | exact Try.underlying118 | exact Try.underlying25 | exact Try.underlying35 | exact Try.underlying120 | exact Try.underlying23 | exact Try.underlying62) (by rfl) (by decide) ?_
    | refine Plan.loadC (key := 1000) (q := 1) rfl rfl rfl rfl rfl rfl (obj_reads1 rfl) (by first | exact Try.underlying3 | exact Try.underlying9 | exact Try.underlying27 | exact Try.underlying4 | exact Try.underlying5 | exact Try.underlying118 | exact Try.underlying25 | exact Try.underlying35 | exact Try.underlying120 | exact Try.underlying23 | exact Try.underlying62) (by rfl) (by decide) ?_
    | refine Plan.loadC (key := 1000) (q := 2) rfl rfl rfl rfl rfl rfl (obj_reads1 rfl) (by first | exact Try.underlying3 | exact Try.underlying9 | exact Try.underlying27 | exact Try.underlying4 | exact Try.underlying5 | exact Try.underlying118 | exact Try.underlying25 | exact Try.underlying35 | exact Try.underlying120 | exact Try.underlying23 | exact Try.underlying62) (by rfl) (by decide) ?_
    | refine Plan.eqlPtr rfl rfl rfl rfl (by kernel_rfl) ?_
    | refine Plan.neqPtr rfl rfl rfl rfl (by kernel_rfl) ?_
    | refine J.seq (J.region mixed hI (by kernel_rfl) ?_)
    | refine J.region mixed hI (by kernel_rfl) ?_
    | refine J.seq (J.seq (J.region mixed hI (by kernel_rfl) ?_))
    | refine J.condF rfl ?_
    | refine J.condT rfl ?_
    | refine J.skip ?_)
        refine J.seq (J.block ?_)
        repeat (first
    | refine Plan.move rfl rfl rfl rfl ?_
    | refine Plan.assign rfl rfl rfl rfl ?_
    | refine Plan.skip rfl rfl ?_
    | refine Plan.extract rfl rfl rfl rfl rfl ?_
    | refine Plan.pick rfl rfl rfl rfl rfl ?_
    | refine Plan.lenStr rfl rfl rfl rfl Try.underlying9 ?_
    | refine Plan.lenE rfl rfl rfl rfl Try.underlying27 ?_
    | (refine Plan.ints rfl rfl rfl rfl rfl rfl ?_; (first | refine Plan.int (i64u8 _) ?_ | refine Plan.int (i64r (by omega)) ?_ | refine Plan.int (u64r (by omega)) ?_ | refine Plan.int (u8r (by omega)) ?_ | refine Plan.int (u16r (by omega)) ?_ | refine Plan.int (quoN (by omega)) ?_ | refine Plan.int (remN _ _) ?_ | refine Plan.int (u8N _) ?_ | skip))
    | refine Plan.un rfl rfl rfl rfl rfl ?_
    | refine Plan.lenB rfl rfl rfl rfl (by first | exact Sub.refl _ | exact Sub.own | exact Sub.old (fun _ h => h) | exact Sub.oldOwn (fun _ h => h) | exact Sub.nilRow | exact Sub.ownLower hB | exact Sub.nilOwn (fun _ h => Nat.le_trans hB h.size)) Try.underlying27 ?_
    | (refine Plan.convInt rfl rfl rfl rfl (by first | exact Try.underlying3 | exact Try.underlying5 | exact Try.underlying118 | exact Try.underlying122 | exact Try.underlying2 | exact Try.underlying100 | exact Try.underlying147 | exact Try.underlying21 | exact Try.underlying25) (by first | exact Try.underlying3 | exact Try.underlying5 | exact Try.underlying118 | exact Try.underlying122 | exact Try.underlying2 | exact Try.underlying100 | exact Try.underlying147 | exact Try.underlying21 | exact Try.underlying25) ?_; (first | refine Plan.int (i64u8 _) ?_ | refine Plan.int (i64r (by omega)) ?_ | refine Plan.int (u64r (by omega)) ?_ | refine Plan.int (u8r (by omega)) ?_ | refine Plan.int (u16r (by omega)) ?_ | refine Plan.int (quoN (by omega)) ?_ | refine Plan.int (remN _ _) ?_ | refine Plan.int (u8N _) ?_ | skip))
    | refine Plan.nilOk rfl rfl rfl rfl ?_
    | refine Plan.fieldC rfl rfl rfl rfl (by first | exact Try.underlying74 | exact Try.underlying71 | exact Try.underlying48 | exact Try.underlying46 | exact Try.underlying42 | exact Try.underlying116 | exact Try.underlying105 | exact Try.underlying124 | exact Try.underlying55 | exact Try.underlying69 | exact Try.underlying51) rfl (by kernel_rfl) (by first | exact (rfl : _ = 0) | exact (rfl : _ = 1) | exact (rfl : _ = 2) | exact (rfl : _ = 3) | exact (rfl : _ = 4) | exact (rfl : _ = 5) | exact (rfl : _ = 6) | exact (rfl : _ = 7) | exact (rfl : _ = 8) | exact (rfl : _ = 9) | exact (rfl : _ = 10) | exact (rfl : _ = 11) | exact (rfl : _ = 12) | exact (rfl : _ = 13) | exact (rfl : _ = 14) | exact (rfl : _ = 15) | exact (rfl : _ = 16) | exact (rfl : _ = 17) | exact (rfl : _ = 18) | exact (rfl : _ = 19) | exact (rfl : _ = 20) | exact (rfl : _ = 21) | exact (rfl : _ = 22) | exact (rfl : _ = 23) | exact (rfl : _ = 24) | exact (rfl : _ = 25)) ?_
    | refine Plan.loadC (key := 1000) (q := 0) rfl rfl rfl rfl rfl rfl (obj_reads1 rfl) (by first | exact Try.underlying3 | exact Try.underlying9 | exact Try.underlying27 | exact Try.underlying4 | exact Try.underlying5 | exact Try.underlying118 | exact Try.underlying25 | exact Try.underlying35 | exact Try.underlying120 | exact Try.underlying23 | exact Try.underlying62) (by rfl) (by decide) ?_
    | refine Plan.loadC (key := 1000) (q := 1) rfl rfl rfl rfl rfl rfl (obj_reads1 rfl) (by first | exact Try.underlying3 | exact Try.underlying9 | exact Try.underlying27 | exact Try.underlying4 | exact Try.underlying5 | exact Try.underlying118 | exact Try.underlying25 | exact Try.underlying35 | exact Try.underlying120 | exact Try.underlying23 | exact Try.underlying62) (by rfl) (by decide) ?_
    | refine Plan.loadC (key := 1000) (q := 2) rfl rfl rfl rfl rfl rfl (obj_reads1 rfl) (by first | exact Try.underlying3 | exact Try.underlying9 | exact Try.underlying27 | exact Try.underlying4 | exact Try.underlying5 | exact Try.underlying118 | exact Try.underlying25 | exact Try.underlying35 | exact Try.underlying120 | exact Try.underlying23 | exact Try.underlying62) (by rfl) (by decide) ?_
    | refine Plan.eqlPtr rfl rfl rfl rfl (by kernel_rfl) ?_
    | refine Plan.neqPtr rfl rfl rfl rfl (by kernel_rfl) ?_
    | refine J.seq (J.region mixed hI (by kernel_rfl) ?_)
    | refine J.region mixed hI (by kernel_rfl) ?_
    | refine J.seq (J.seq (J.region mixed hI (by kernel_rfl) ?_))
    | refine J.condF rfl ?_
    | refine J.condT rfl ?_
    | refine J.skip ?_)
        refine Plan.call (B := 0) rfl rfl rfl (disk_rest turn 65536 (by omega)) Try.func41 rfl rfl (fun _ _ => Nat.zero_le _) (by repeat (first | exact Opnds.nil | refine Opnds.cons rfl (by first | exact Sub.refl _ | exact Sub.own | exact Sub.old (fun _ h => h) | exact Sub.oldOwn (fun _ h => h) | exact Sub.nilRow | exact Sub.exIn hbe) ?_)) ?_
        rw [← hm]
        repeat (first
    | refine Plan.move rfl rfl rfl rfl ?_
    | refine Plan.assign rfl rfl rfl rfl ?_
    | refine Plan.skip rfl rfl ?_
    | refine Plan.extract rfl rfl rfl rfl rfl ?_
    | refine Plan.pick rfl rfl rfl rfl rfl ?_
    | refine Plan.lenStr rfl rfl rfl rfl Try.underlying9 ?_
    | refine Plan.lenE rfl rfl rfl rfl Try.underlying27 ?_
    | (refine Plan.ints rfl rfl rfl rfl rfl rfl ?_; (first | refine Plan.int (i64u8 _) ?_ | refine Plan.int (i64r (by omega)) ?_ | refine Plan.int (u64r (by omega)) ?_ | refine Plan.int (u8r (by omega)) ?_ | refine Plan.int (u16r (by omega)) ?_ | refine Plan.int (quoN (by omega)) ?_ | refine Plan.int (remN _ _) ?_ | refine Plan.int (u8N _) ?_ | skip))
    | refine Plan.un rfl rfl rfl rfl rfl ?_
    | refine Plan.lenB rfl rfl rfl rfl (by first | exact Sub.refl _ | exact Sub.own | exact Sub.old (fun _ h => h) | exact Sub.oldOwn (fun _ h => h) | exact Sub.nilRow | exact Sub.ownLower hB | exact Sub.nilOwn (fun _ h => Nat.le_trans hB h.size)) Try.underlying27 ?_
    | (refine Plan.convInt rfl rfl rfl rfl (by first | exact Try.underlying3 | exact Try.underlying5 | exact Try.underlying118 | exact Try.underlying122 | exact Try.underlying2 | exact Try.underlying100 | exact Try.underlying147 | exact Try.underlying21 | exact Try.underlying25) (by first | exact Try.underlying3 | exact Try.underlying5 | exact Try.underlying118 | exact Try.underlying122 | exact Try.underlying2 | exact Try.underlying100 | exact Try.underlying147 | exact Try.underlying21 | exact Try.underlying25) ?_; (first | refine Plan.int (i64u8 _) ?_ | refine Plan.int (i64r (by omega)) ?_ | refine Plan.int (u64r (by omega)) ?_ | refine Plan.int (u8r (by omega)) ?_ | refine Plan.int (u16r (by omega)) ?_ | refine Plan.int (quoN (by omega)) ?_ | refine Plan.int (remN _ _) ?_ | refine Plan.int (u8N _) ?_ | skip))
    | refine Plan.nilOk rfl rfl rfl rfl ?_
    | refine Plan.fieldC rfl rfl rfl rfl (by first | exact Try.underlying74 | exact Try.underlying71 | exact Try.underlying48 | exact Try.underlying46 | exact Try.underlying42 | exact Try.underlying116 | exact Try.underlying105 | exact Try.underlying124 | exact Try.underlying55 | exact Try.underlying69 | exact Try.underlying51) rfl (by kernel_rfl) (by first | exact (rfl : _ = 0) | exact (rfl : _ = 1) | exact (rfl : _ = 2) | exact (rfl : _ = 3) | exact (rfl : _ = 4) | exact (rfl : _ = 5) | exact (rfl : _ = 6) | exact (rfl : _ = 7) | exact (rfl : _ = 8) | exact (rfl : _ = 9) | exact (rfl : _ = 10) | exact (rfl : _ = 11) | exact (rfl : _ = 12) | exact (rfl : _ = 13) | exact (rfl : _ = 14) | exact (rfl : _ = 15) | exact (rfl : _ = 16) | exact (rfl : _ = 17) | exact (rfl : _ = 18) | exact (rfl : _ = 19) | exact (rfl : _ = 20) | exact (rfl : _ = 21) | exact (rfl : _ = 22) | exact (rfl : _ = 23) | exact (rfl : _ = 24) | exact (rfl : _ = 25)) ?_
    | refine Plan.loadC (key := 1000) (q := 0) rfl rfl rfl rfl rfl rfl (obj_reads1 rfl) (by first | exact Try.underlying3 | exact Try.underlying9 | exact Try.underlying27 | exact Try.underlying4 | exact Try.underlying5 | exact Try.underlying118 | exact Try.underlying25 | exact Try.underlying35 | exact Try.underlying120 | exact Try.underlying23 | exact Try.underlying62) (by rfl) (by decide) ?_
    | refine Plan.loadC (key := 1000) (q := 1) rfl rfl rfl rfl rfl rfl (obj_reads1 rfl) (by first | exact Try.underlying3 | exact Try.underlying9 | exact Try.underlying27 | exact Try.underlying4 | exact Try.underlying5 | exact Try.underlying118 | exact Try.underlying25 | exact Try.underlying35 | exact Try.underlying120 | exact Try.underlying23 | exact Try.underlying62) (by rfl) (by decide) ?_
    | refine Plan.loadC (key := 1000) (q := 2) rfl rfl rfl rfl rfl rfl (obj_reads1 rfl) (by first | exact Try.underlying3 | exact Try.underlying9 | exact Try.underlying27 | exact Try.underlying4 | exact Try.underlying5 | exact Try.underlying118 | exact Try.underlying25 | exact Try.underlying35 | exact Try.underlying120 | exact Try.underlying23 | exact Try.underlying62) (by rfl) (by decide) ?_
    | refine Plan.eqlPtr rfl rfl rfl rfl (by kernel_rfl) ?_
    | refine Plan.neqPtr rfl rfl rfl rfl (by kernel_rfl) ?_
    | refine J.seq (J.region mixed hI (by kernel_rfl) ?_)
    | refine J.region mixed hI (by kernel_rfl) ?_
    | refine J.seq (J.seq (J.region mixed hI (by kernel_rfl) ?_))
    | refine J.condF rfl ?_
    | refine J.condT rfl ?_
    | refine J.skip ?_)
        refine Plan.int (y := ((15 - i : Nat) : Int)) (by omega) ?_
        refine Plan.shrN rfl rfl rfl rfl rfl (by show 15 - i ≤ 64; omega) ?_
        refine Plan.ints rfl rfl rfl rfl rfl rfl ?_
        refine Plan.int (and1i _ (Nat.lt_of_le_of_lt (Nat.div_le_self _ _) hml)) ?_
        repeat (first
    | refine Plan.move rfl rfl rfl rfl ?_
    | refine Plan.assign rfl rfl rfl rfl ?_
    | refine Plan.skip rfl rfl ?_
    | refine Plan.extract rfl rfl rfl rfl rfl ?_
    | refine Plan.pick rfl rfl rfl rfl rfl ?_
    | refine Plan.lenStr rfl rfl rfl rfl Try.underlying9 ?_
    | refine Plan.lenE rfl rfl rfl rfl Try.underlying27 ?_
    | (refine Plan.ints rfl rfl rfl rfl rfl rfl ?_; (first | refine Plan.int (i64u8 _) ?_ | refine Plan.int (i64r (by omega)) ?_ | refine Plan.int (u64r (by omega)) ?_ | refine Plan.int (u8r (by omega)) ?_ | refine Plan.int (u16r (by omega)) ?_ | refine Plan.int (quoN (by omega)) ?_ | refine Plan.int (remN _ _) ?_ | refine Plan.int (u8N _) ?_ | skip))
    | refine Plan.un rfl rfl rfl rfl rfl ?_
    | refine Plan.lenB rfl rfl rfl rfl (by first | exact Sub.refl _ | exact Sub.own | exact Sub.old (fun _ h => h) | exact Sub.oldOwn (fun _ h => h) | exact Sub.nilRow | exact Sub.ownLower hB | exact Sub.nilOwn (fun _ h => Nat.le_trans hB h.size)) Try.underlying27 ?_
    | (refine Plan.convInt rfl rfl rfl rfl (by first | exact Try.underlying3 | exact Try.underlying5 | exact Try.underlying118 | exact Try.underlying122 | exact Try.underlying2 | exact Try.underlying100 | exact Try.underlying147 | exact Try.underlying21 | exact Try.underlying25) (by first | exact Try.underlying3 | exact Try.underlying5 | exact Try.underlying118 | exact Try.underlying122 | exact Try.underlying2 | exact Try.underlying100 | exact Try.underlying147 | exact Try.underlying21 | exact Try.underlying25) ?_; (first | refine Plan.int (i64u8 _) ?_ | refine Plan.int (i64r (by omega)) ?_ | refine Plan.int (u64r (by omega)) ?_ | refine Plan.int (u8r (by omega)) ?_ | refine Plan.int (u16r (by omega)) ?_ | refine Plan.int (quoN (by omega)) ?_ | refine Plan.int (remN _ _) ?_ | refine Plan.int (u8N _) ?_ | skip))
    | refine Plan.nilOk rfl rfl rfl rfl ?_
    | refine Plan.fieldC rfl rfl rfl rfl (by first | exact Try.underlying74 | exact Try.underlying71 | exact Try.underlying48 | exact Try.underlying46 | exact Try.underlying42 | exact Try.underlying116 | exact Try.underlying105 | exact Try.underlying124 | exact Try.underlying55 | exact Try.underlying69 | exact Try.underlying51) rfl (by kernel_rfl) (by first | exact (rfl : _ = 0) | exact (rfl : _ = 1) | exact (rfl : _ = 2) | exact (rfl : _ = 3) | exact (rfl : _ = 4) | exact (rfl : _ = 5) | exact (rfl : _ = 6) | exact (rfl : _ = 7) | exact (rfl : _ = 8) | exact (rfl : _ = 9) | exact (rfl : _ = 10) | exact (rfl : _ = 11) | exact (rfl : _ = 12) | exact (rfl : _ = 13) | exact (rfl : _ = 14) | exact (rfl : _ = 15) | exact (rfl : _ = 16) | exact (rfl : _ = 17) | exact (rfl : _ = 18) | exact (rfl : _ = 19) | exact (rfl : _ = 20) | exact (rfl : _ = 21) | exact (rfl : _ = 22) | exact (rfl : _ = 23) | exact (rfl : _ = 24) | exact (rfl : _ = 25)) ?_
    | refine Plan.loadC (key := 1000) (q := 0) rfl rfl rfl rfl rfl rfl (obj_reads1 rfl) (by first | exact Try.underlying3 | exact Try.underlying9 | exact Try.underlying27 | exact Try.underlying4 | exact Try.underlying5 | exact Try.underlying118 | exact Try.underlying25 | exact Try.underlying35 | exact Try.underlying120 | exact Try.underlying23 | exact Try.underlying62) (by rfl) (by decide) ?_
    | refine Plan.loadC (key := 1000) (q := 1) rfl rfl rfl rfl rfl rfl (obj_reads1 rfl) (by first | exact Try.underlying3 | exact Try.underlying9 | exact Try.underlying27 | exact Try.underlying4 | exact Try.underlying5 | exact Try.underlying118 | exact Try.underlying25 | exact Try.underlying35 | exact Try.underlying120 | exact Try.underlying23 | exact Try.underlying62) (by rfl) (by decide) ?_
    | refine Plan.loadC (key := 1000) (q := 2) rfl rfl rfl rfl rfl rfl (obj_reads1 rfl) (by first | exact Try.underlying3 | exact Try.underlying9 | exact Try.underlying27 | exact Try.underlying4 | exact Try.underlying5 | exact Try.underlying118 | exact Try.underlying25 | exact Try.underlying35 | exact Try.underlying120 | exact Try.underlying23 | exact Try.underlying62) (by rfl) (by decide) ?_
    | refine Plan.eqlPtr rfl rfl rfl rfl (by kernel_rfl) ?_
    | refine Plan.neqPtr rfl rfl rfl rfl (by kernel_rfl) ?_
    | refine J.seq (J.region mixed hI (by kernel_rfl) ?_)
    | refine J.region mixed hI (by kernel_rfl) ?_
    | refine J.seq (J.seq (J.region mixed hI (by kernel_rfl) ?_))
    | refine J.condF rfl ?_
    | refine J.condT rfl ?_
    | refine J.skip ?_)
        refine J.condE rfl (fun hbit => ?_) (fun hbit => ?_)
        · have hbit' : m / 2 ^ (15 - i) % 2 = 1 := by omega
          have hq8 : (p + i) / 8 < (flips t0 p m i).length := by omega
          have hget : (bs (l.take f ++ flips t0 p m i))[0 + f * 1 + (p + i) / 8 * 1]? = some (.int .u8 ((flips t0 p m i).getD ((p + i) / 8) 0).toNat) := by
            have hlf : (l.take f).length = f := by rw [List.length_take]; omega
            rw [show 0 + f * 1 + (p + i) / 8 * 1 = f + (p + i) / 8 by omega]
            simp only [bs, List.map_append]
            rw [List.getElem?_append_right (by rw [List.length_map, hlf]; omega), List.length_map, hlf, Nat.add_sub_cancel_left, List.getElem?_map, List.getElem?_eq_getElem hq8, List.getD_eq_getElem?_getD, List.getElem?_eq_getElem hq8]
            rfl
          refine (J.region mixed hI (by kernel_rfl) ?_)
          refine Plan.move rfl rfl rfl rfl ?_
          refine Plan.move rfl rfl rfl rfl ?_
          refine Plan.move rfl rfl rfl rfl ?_
          refine Plan.ints rfl rfl rfl rfl rfl rfl ?_
          refine Plan.int (y := ((p + i : Nat) : Int)) (by rw [i64r (by omega)]; omega) ?_
          refine Plan.ints rfl rfl rfl rfl rfl rfl ?_
          refine Plan.int (y := (((p + i) / 8 : Nat) : Int)) (quoN (y := 8) (by omega)) ?_
          refine Plan.indexC rfl rfl rfl rfl rfl eltB (by omega) rfl ?_
          refine Plan.loadC (key := 1000) (q := 1) rfl rfl rfl rfl rfl rfl (row_reads1 hget) Try.underlying5 rfl (by decide) ?_
          refine Plan.move rfl rfl rfl rfl ?_
          refine Plan.move rfl rfl rfl rfl ?_
          refine Plan.ints rfl rfl rfl rfl rfl rfl ?_
          refine Plan.int (y := ((p + i : Nat) : Int)) (by rw [i64r (by omega)]; omega) ?_
          refine Plan.ints rfl rfl rfl rfl rfl rfl ?_
          refine Plan.int (y := (((p + i) % 8 : Nat) : Int)) (remN _ 8) ?_
          refine Plan.shrN (p := 128) (q := (p + i) % 8) rfl rfl rfl rfl rfl (by show (p + i) % 8 ≤ 8; omega) ?_
          refine Plan.int (bit_natD (p + i)) ?_
          refine Plan.ints rfl rfl rfl rfl rfl rfl ?_
          refine Plan.int (u8_xor _ _) ?_
          refine Plan.indexC rfl rfl rfl rfl rfl eltB (by omega) rfl ?_
          refine Plan.storeC (key := 1000) (q := 1) rfl rfl rfl rfl rfl rfl (by simp [Value.cells, Value.oneCell']) (by kernel_rfl) rfl hA rfl (row_pat1 (List.getElem?_eq_some_iff.1 hget).1) ?_
          have hset : (bs (l.take f ++ flips t0 p m i)).set (0 + f * 1 + (p + i) / 8 * 1) (.int .u8 ((flips t0 p m i).getD ((p + i) / 8) 0 ^^^ bitAt (p + i)).toNat) = bs (l.take f ++ flips t0 p m (i + 1)) := by
            have hlf : (l.take f).length = f := by rw [List.length_take]; omega
            rw [bsSet, show 0 + f * 1 + (p + i) / 8 * 1 = f + (p + i) / 8 by omega]
            rw [List.set_append_right _ _ (by omega), hlf, Nat.add_sub_cancel_left]
            simp only [flips, if_pos hbit']
            rfl
          rw [hset]
          repeat (first
    | refine Plan.move rfl rfl rfl rfl ?_
    | refine Plan.assign rfl rfl rfl rfl ?_
    | refine Plan.skip rfl rfl ?_
    | refine Plan.extract rfl rfl rfl rfl rfl ?_
    | refine Plan.pick rfl rfl rfl rfl rfl ?_
    | refine Plan.lenStr rfl rfl rfl rfl Try.underlying9 ?_
    | refine Plan.lenE rfl rfl rfl rfl Try.underlying27 ?_
    | (refine Plan.ints rfl rfl rfl rfl rfl rfl ?_; (first | refine Plan.int (i64u8 _) ?_ | refine Plan.int (i64r (by omega)) ?_ | refine Plan.int (u64r (by omega)) ?_ | refine Plan.int (u8r (by omega)) ?_ | refine Plan.int (u16r (by omega)) ?_ | refine Plan.int (quoN (by omega)) ?_ | refine Plan.int (remN _ _) ?_ | refine Plan.int (u8N _) ?_ | skip))
    | refine Plan.un rfl rfl rfl rfl rfl ?_
    | refine Plan.lenB rfl rfl rfl rfl (by first | exact Sub.refl _ | exact Sub.own | exact Sub.old (fun _ h => h) | exact Sub.oldOwn (fun _ h => h) | exact Sub.nilRow | exact Sub.ownLower hB | exact Sub.nilOwn (fun _ h => Nat.le_trans hB h.size)) Try.underlying27 ?_
    | (refine Plan.convInt rfl rfl rfl rfl (by first | exact Try.underlying3 | exact Try.underlying5 | exact Try.underlying118 | exact Try.underlying122 | exact Try.underlying2 | exact Try.underlying100 | exact Try.underlying147 | exact Try.underlying21 | exact Try.underlying25) (by first | exact Try.underlying3 | exact Try.underlying5 | exact Try.underlying118 | exact Try.underlying122 | exact Try.underlying2 | exact Try.underlying100 | exact Try.underlying147 | exact Try.underlying21 | exact Try.underlying25) ?_; (first | refine Plan.int (i64u8 _) ?_ | refine Plan.int (i64r (by omega)) ?_ | refine Plan.int (u64r (by omega)) ?_ | refine Plan.int (u8r (by omega)) ?_ | refine Plan.int (u16r (by omega)) ?_ | refine Plan.int (quoN (by omega)) ?_ | refine Plan.int (remN _ _) ?_ | refine Plan.int (u8N _) ?_ | skip))
    | refine Plan.nilOk rfl rfl rfl rfl ?_
    | refine Plan.fieldC rfl rfl rfl rfl (by first | exact Try.underlying74 | exact Try.underlying71 | exact Try.underlying48 | exact Try.underlying46 | exact Try.underlying42 | exact Try.underlying116 | exact Try.underlying105 | exact Try.underlying124 | exact Try.underlying55 | exact Try.underlying69 | exact Try.underlying51) rfl (by kernel_rfl) (by first | exact (rfl : _ = 0) | exact (rfl : _ = 1) | exact (rfl : _ = 2) | exact (rfl : _ = 3) | exact (rfl : _ = 4) | exact (rfl : _ = 5) | exact (rfl : _ = 6) | exact (rfl : _ = 7) | exact (rfl : _ = 8) | exact (rfl : _ = 9) | exact (rfl : _ = 10) | exact (rfl : _ = 11) | exact (rfl : _ = 12) | exact (rfl : _ = 13) | exact (rfl : _ = 14) | exact (rfl : _ = 15) | exact (rfl : _ = 16) | exact (rfl : _ = 17) | exact (rfl : _ = 18) | exact (rfl : _ = 19) | exact (rfl : _ = 20) | exact (rfl : _ = 21) | exact (rfl : _ = 22) | exact (rfl : _ = 23) | exact (rfl : _ = 24) | exact (rfl : _ = 25)) ?_
    | refine Plan.loadC (key := 1000) (q := 0) rfl rfl rfl rfl rfl rfl (obj_reads1 rfl) (by first | exact Try.underlying3 | exact Try.underlying9 | exact Try.underlying27 | exact Try.underlying4 | exact Try.underlying5 | exact Try.underlying118 | exact Try.underlying25 | exact Try.underlying35 | exact Try.underlying120 | exact Try.underlying23 | exact Try.underlying62) (by rfl) (by decide) ?_
    | refine Plan.loadC (key := 1000) (q := 1) rfl rfl rfl rfl rfl rfl (obj_reads1 rfl) (by first | exact Try.underlying3 | exact Try.underlying9 | exact Try.underlying27 | exact Try.underlying4 | exact Try.underlying5 | exact Try.underlying118 | exact Try.underlying25 | exact Try.underlying35 | exact Try.underlying120 | exact Try.underlying23 | exact Try.underlying62) (by rfl) (by decide) ?_
    | refine Plan.loadC (key := 1000) (q := 2) rfl rfl rfl rfl rfl rfl (obj_reads1 rfl) (by first | exact Try.underlying3 | exact Try.underlying9 | exact Try.underlying27 | exact Try.underlying4 | exact Try.underlying5 | exact Try.underlying118 | exact Try.underlying25 | exact Try.underlying35 | exact Try.underlying120 | exact Try.underlying23 | exact Try.underlying62) (by rfl) (by decide) ?_
    | refine Plan.eqlPtr rfl rfl rfl rfl (by kernel_rfl) ?_
    | refine Plan.neqPtr rfl rfl rfl rfl (by kernel_rfl) ?_
    | refine J.seq (J.region mixed hI (by kernel_rfl) ?_)
    | refine J.region mixed hI (by kernel_rfl) ?_
    | refine J.seq (J.seq (J.region mixed hI (by kernel_rfl) ?_))
    | refine J.condF rfl ?_
    | refine J.condT rfl ?_
    | refine J.skip ?_)
          refine Nrm.next (i + 1) hlt' (by omega) (by repeat (first | exact Weak.nil | refine Weak.cons rfl (Sub.refl _) ?_))
        · have hbit' : ¬ m / 2 ^ (15 - i) % 2 = 1 := by omega
          have hset : flips t0 p m i = flips t0 p m (i + 1) := by simp only [flips, if_neg hbit']
          refine J.convC (key := 1000) (q := 1) rfl rfl (Ent.rowEq (congrArg (fun t => bs (l.take f ++ t)) hset)) ?_
          repeat (first
    | refine Plan.move rfl rfl rfl rfl ?_
    | refine Plan.assign rfl rfl rfl rfl ?_
    | refine Plan.skip rfl rfl ?_
    | refine Plan.extract rfl rfl rfl rfl rfl ?_
    | refine Plan.pick rfl rfl rfl rfl rfl ?_
    | refine Plan.lenStr rfl rfl rfl rfl Try.underlying9 ?_
    | refine Plan.lenE rfl rfl rfl rfl Try.underlying27 ?_
    | (refine Plan.ints rfl rfl rfl rfl rfl rfl ?_; (first | refine Plan.int (i64u8 _) ?_ | refine Plan.int (i64r (by omega)) ?_ | refine Plan.int (u64r (by omega)) ?_ | refine Plan.int (u8r (by omega)) ?_ | refine Plan.int (u16r (by omega)) ?_ | refine Plan.int (quoN (by omega)) ?_ | refine Plan.int (remN _ _) ?_ | refine Plan.int (u8N _) ?_ | skip))
    | refine Plan.un rfl rfl rfl rfl rfl ?_
    | refine Plan.lenB rfl rfl rfl rfl (by first | exact Sub.refl _ | exact Sub.own | exact Sub.old (fun _ h => h) | exact Sub.oldOwn (fun _ h => h) | exact Sub.nilRow | exact Sub.ownLower hB | exact Sub.nilOwn (fun _ h => Nat.le_trans hB h.size)) Try.underlying27 ?_
    | (refine Plan.convInt rfl rfl rfl rfl (by first | exact Try.underlying3 | exact Try.underlying5 | exact Try.underlying118 | exact Try.underlying122 | exact Try.underlying2 | exact Try.underlying100 | exact Try.underlying147 | exact Try.underlying21 | exact Try.underlying25) (by first | exact Try.underlying3 | exact Try.underlying5 | exact Try.underlying118 | exact Try.underlying122 | exact Try.underlying2 | exact Try.underlying100 | exact Try.underlying147 | exact Try.underlying21 | exact Try.underlying25) ?_; (first | refine Plan.int (i64u8 _) ?_ | refine Plan.int (i64r (by omega)) ?_ | refine Plan.int (u64r (by omega)) ?_ | refine Plan.int (u8r (by omega)) ?_ | refine Plan.int (u16r (by omega)) ?_ | refine Plan.int (quoN (by omega)) ?_ | refine Plan.int (remN _ _) ?_ | refine Plan.int (u8N _) ?_ | skip))
    | refine Plan.nilOk rfl rfl rfl rfl ?_
    | refine Plan.fieldC rfl rfl rfl rfl (by first | exact Try.underlying74 | exact Try.underlying71 | exact Try.underlying48 | exact Try.underlying46 | exact Try.underlying42 | exact Try.underlying116 | exact Try.underlying105 | exact Try.underlying124 | exact Try.underlying55 | exact Try.underlying69 | exact Try.underlying51) rfl (by kernel_rfl) (by first | exact (rfl : _ = 0) | exact (rfl : _ = 1) | exact (rfl : _ = 2) | exact (rfl : _ = 3) | exact (rfl : _ = 4) | exact (rfl : _ = 5) | exact (rfl : _ = 6) | exact (rfl : _ = 7) | exact (rfl : _ = 8) | exact (rfl : _ = 9) | exact (rfl : _ = 10) | exact (rfl : _ = 11) | exact (rfl : _ = 12) | exact (rfl : _ = 13) | exact (rfl : _ = 14) | exact (rfl : _ = 15) | exact (rfl : _ = 16) | exact (rfl : _ = 17) | exact (rfl : _ = 18) | exact (rfl : _ = 19) | exact (rfl : _ = 20) | exact (rfl : _ = 21) | exact (rfl : _ = 22) | exact (rfl : _ = 23) | exact (rfl : _ = 24) | exact (rfl : _ = 25)) ?_
    | refine Plan.loadC (key := 1000) (q := 0) rfl rfl rfl rfl rfl rfl (obj_reads1 rfl) (by first | exact Try.underlying3 | exact Try.underlying9 | exact Try.underlying27 | exact Try.underlying4 | exact Try.underlying5 | exact Try.underlying118 | exact Try.underlying25 | exact Try.underlying35 | exact Try.underlying120 | exact Try.underlying23 | exact Try.underlying62) (by rfl) (by decide) ?_
    | refine Plan.loadC (key := 1000) (q := 1) rfl rfl rfl rfl rfl rfl (obj_reads1 rfl) (by first | exact Try.underlying3 | exact Try.underlying9 | exact Try.underlying27 | exact Try.underlying4 | exact Try.underlying5 | exact Try.underlying118 | exact Try.underlying25 | exact Try.underlying35 | exact Try.underlying120 | exact Try.underlying23 | exact Try.underlying62) (by rfl) (by decide) ?_
    | refine Plan.loadC (key := 1000) (q := 2) rfl rfl rfl rfl rfl rfl (obj_reads1 rfl) (by first | exact Try.underlying3 | exact Try.underlying9 | exact Try.underlying27 | exact Try.underlying4 | exact Try.underlying5 | exact Try.underlying118 | exact Try.underlying25 | exact Try.underlying35 | exact Try.underlying120 | exact Try.underlying23 | exact Try.underlying62) (by rfl) (by decide) ?_
    | refine Plan.eqlPtr rfl rfl rfl rfl (by kernel_rfl) ?_
    | refine Plan.neqPtr rfl rfl rfl rfl (by kernel_rfl) ?_
    | refine J.seq (J.region mixed hI (by kernel_rfl) ?_)
    | refine J.region mixed hI (by kernel_rfl) ?_
    | refine J.seq (J.seq (J.region mixed hI (by kernel_rfl) ?_))
    | refine J.condF rfl ?_
    | refine J.condT rfl ?_
    | refine J.skip ?_)
          refine Nrm.next (i + 1) hlt' (by omega) (by repeat (first | exact Weak.nil | refine Weak.cons rfl (Sub.refl _) ?_))
      · have hi16 : i = 16 := by omega
        subst hi16
        refine J.exit ?_
        have hcl := hclose (some ⟨g, 0, none⟩)
        rw [htail] at hcl
        repeat (first
    | refine Plan.move rfl rfl rfl rfl ?_
    | refine Plan.assign rfl rfl rfl rfl ?_
    | refine Plan.skip rfl rfl ?_
    | refine Plan.extract rfl rfl rfl rfl rfl ?_
    | refine Plan.pick rfl rfl rfl rfl rfl ?_
    | refine Plan.lenStr rfl rfl rfl rfl Try.underlying9 ?_
    | refine Plan.lenE rfl rfl rfl rfl Try.underlying27 ?_
    | (refine Plan.ints rfl rfl rfl rfl rfl rfl ?_; (first | refine Plan.int (i64u8 _) ?_ | refine Plan.int (i64r (by omega)) ?_ | refine Plan.int (u64r (by omega)) ?_ | refine Plan.int (u8r (by omega)) ?_ | refine Plan.int (u16r (by omega)) ?_ | refine Plan.int (quoN (by omega)) ?_ | refine Plan.int (remN _ _) ?_ | refine Plan.int (u8N _) ?_ | skip))
    | refine Plan.un rfl rfl rfl rfl rfl ?_
    | refine Plan.lenB rfl rfl rfl rfl (by first | exact Sub.refl _ | exact Sub.own | exact Sub.old (fun _ h => h) | exact Sub.oldOwn (fun _ h => h) | exact Sub.nilRow | exact Sub.ownLower hB | exact Sub.nilOwn (fun _ h => Nat.le_trans hB h.size)) Try.underlying27 ?_
    | (refine Plan.convInt rfl rfl rfl rfl (by first | exact Try.underlying3 | exact Try.underlying5 | exact Try.underlying118 | exact Try.underlying122 | exact Try.underlying2 | exact Try.underlying100 | exact Try.underlying147 | exact Try.underlying21 | exact Try.underlying25) (by first | exact Try.underlying3 | exact Try.underlying5 | exact Try.underlying118 | exact Try.underlying122 | exact Try.underlying2 | exact Try.underlying100 | exact Try.underlying147 | exact Try.underlying21 | exact Try.underlying25) ?_; (first | refine Plan.int (i64u8 _) ?_ | refine Plan.int (i64r (by omega)) ?_ | refine Plan.int (u64r (by omega)) ?_ | refine Plan.int (u8r (by omega)) ?_ | refine Plan.int (u16r (by omega)) ?_ | refine Plan.int (quoN (by omega)) ?_ | refine Plan.int (remN _ _) ?_ | refine Plan.int (u8N _) ?_ | skip))
    | refine Plan.nilOk rfl rfl rfl rfl ?_
    | refine Plan.fieldC rfl rfl rfl rfl (by first | exact Try.underlying74 | exact Try.underlying71 | exact Try.underlying48 | exact Try.underlying46 | exact Try.underlying42 | exact Try.underlying116 | exact Try.underlying105 | exact Try.underlying124 | exact Try.underlying55 | exact Try.underlying69 | exact Try.underlying51) rfl (by kernel_rfl) (by first | exact (rfl : _ = 0) | exact (rfl : _ = 1) | exact (rfl : _ = 2) | exact (rfl : _ = 3) | exact (rfl : _ = 4) | exact (rfl : _ = 5) | exact (rfl : _ = 6) | exact (rfl : _ = 7) | exact (rfl : _ = 8) | exact (rfl : _ = 9) | exact (rfl : _ = 10) | exact (rfl : _ = 11) | exact (rfl : _ = 12) | exact (rfl : _ = 13) | exact (rfl : _ = 14) | exact (rfl : _ = 15) | exact (rfl : _ = 16) | exact (rfl : _ = 17) | exact (rfl : _ = 18) | exact (rfl : _ = 19) | exact (rfl : _ = 20) | exact (rfl : _ = 21) | exact (rfl : _ = 22) | exact (rfl : _ = 23) | exact (rfl : _ = 24) | exact (rfl : _ = 25)) ?_
    | refine Plan.loadC (key := 1000) (q := 0) rfl rfl rfl rfl rfl rfl (obj_reads1 rfl) (by first | exact Try.underlying3 | exact Try.underlying9 | exact Try.underlying27 | exact Try.underlying4 | exact Try.underlying5 | exact Try.underlying118 | exact Try.underlying25 | exact Try.underlying35 | exact Try.underlying120 | exact Try.underlying23 | exact Try.underlying62) (by rfl) (by decide) ?_
    | refine Plan.loadC (key := 1000) (q := 1) rfl rfl rfl rfl rfl rfl (obj_reads1 rfl) (by first | exact Try.underlying3 | exact Try.underlying9 | exact Try.underlying27 | exact Try.underlying4 | exact Try.underlying5 | exact Try.underlying118 | exact Try.underlying25 | exact Try.underlying35 | exact Try.underlying120 | exact Try.underlying23 | exact Try.underlying62) (by rfl) (by decide) ?_
    | refine Plan.loadC (key := 1000) (q := 2) rfl rfl rfl rfl rfl rfl (obj_reads1 rfl) (by first | exact Try.underlying3 | exact Try.underlying9 | exact Try.underlying27 | exact Try.underlying4 | exact Try.underlying5 | exact Try.underlying118 | exact Try.underlying25 | exact Try.underlying35 | exact Try.underlying120 | exact Try.underlying23 | exact Try.underlying62) (by rfl) (by decide) ?_
    | refine Plan.eqlPtr rfl rfl rfl rfl (by kernel_rfl) ?_
    | refine Plan.neqPtr rfl rfl rfl rfl (by kernel_rfl) ?_
    | refine J.seq (J.region mixed hI (by kernel_rfl) ?_)
    | refine J.region mixed hI (by kernel_rfl) ?_
    | refine J.seq (J.seq (J.region mixed hI (by kernel_rfl) ?_))
    | refine J.condF rfl ?_
    | refine J.condT rfl ?_
    | refine J.skip ?_)
        refine Plan.regroup [diskC β (crashOf l f keep at_ turn) f r] (by kernel_rfl) hI (key := 1000) rfl (hcl.trans Ent.addEmp) ?_
        refine Plan.callC (key := 1000) (q := 0) rfl rfl rfl (disk_Sync β (crashOf l f keep at_ turn) f r) Try.func33 rfl rfl (by intro _ e; cases e; decide) (by repeat (first | exact Opnds.nil | refine Opnds.cons rfl (by first | exact Sub.refl _ | exact Sub.own | exact Sub.old (fun _ h => h) | exact Sub.oldOwn (fun _ h => h) | exact Sub.nilRow | exact Sub.exIn hbe) ?_)) rfl hA rfl ?_
        intro _ _
        exact Nrm.retC0 (key := 1000) () rfl rfl rfl trivial Ent.one (.inl rfl)
  · have htail : tailOf t0 at_ turn = t0 := by unfold tailOf; rw [ht0l, if_neg h2]
    refine Plan.sliceAny rfl rfl rfl rfl eltB rfl (by omega) ?_
    repeat (first
    | refine Plan.move rfl rfl rfl rfl ?_
    | refine Plan.assign rfl rfl rfl rfl ?_
    | refine Plan.skip rfl rfl ?_
    | refine Plan.extract rfl rfl rfl rfl rfl ?_
    | refine Plan.pick rfl rfl rfl rfl rfl ?_
    | refine Plan.lenStr rfl rfl rfl rfl Try.underlying9 ?_
    | refine Plan.lenE rfl rfl rfl rfl Try.underlying27 ?_
    | (refine Plan.ints rfl rfl rfl rfl rfl rfl ?_; (first | refine Plan.int (i64u8 _) ?_ | refine Plan.int (i64r (by omega)) ?_ | refine Plan.int (u64r (by omega)) ?_ | refine Plan.int (u8r (by omega)) ?_ | refine Plan.int (u16r (by omega)) ?_ | refine Plan.int (quoN (by omega)) ?_ | refine Plan.int (remN _ _) ?_ | refine Plan.int (u8N _) ?_ | skip))
    | refine Plan.un rfl rfl rfl rfl rfl ?_
    | refine Plan.lenB rfl rfl rfl rfl (by first | exact Sub.refl _ | exact Sub.own | exact Sub.old (fun _ h => h) | exact Sub.oldOwn (fun _ h => h) | exact Sub.nilRow | exact Sub.ownLower hB | exact Sub.nilOwn (fun _ h => Nat.le_trans hB h.size)) Try.underlying27 ?_
    | (refine Plan.convInt rfl rfl rfl rfl (by first | exact Try.underlying3 | exact Try.underlying5 | exact Try.underlying118 | exact Try.underlying122 | exact Try.underlying2 | exact Try.underlying100 | exact Try.underlying147 | exact Try.underlying21 | exact Try.underlying25) (by first | exact Try.underlying3 | exact Try.underlying5 | exact Try.underlying118 | exact Try.underlying122 | exact Try.underlying2 | exact Try.underlying100 | exact Try.underlying147 | exact Try.underlying21 | exact Try.underlying25) ?_; (first | refine Plan.int (i64u8 _) ?_ | refine Plan.int (i64r (by omega)) ?_ | refine Plan.int (u64r (by omega)) ?_ | refine Plan.int (u8r (by omega)) ?_ | refine Plan.int (u16r (by omega)) ?_ | refine Plan.int (quoN (by omega)) ?_ | refine Plan.int (remN _ _) ?_ | refine Plan.int (u8N _) ?_ | skip))
    | refine Plan.nilOk rfl rfl rfl rfl ?_
    | refine Plan.fieldC rfl rfl rfl rfl (by first | exact Try.underlying74 | exact Try.underlying71 | exact Try.underlying48 | exact Try.underlying46 | exact Try.underlying42 | exact Try.underlying116 | exact Try.underlying105 | exact Try.underlying124 | exact Try.underlying55 | exact Try.underlying69 | exact Try.underlying51) rfl (by kernel_rfl) (by first | exact (rfl : _ = 0) | exact (rfl : _ = 1) | exact (rfl : _ = 2) | exact (rfl : _ = 3) | exact (rfl : _ = 4) | exact (rfl : _ = 5) | exact (rfl : _ = 6) | exact (rfl : _ = 7) | exact (rfl : _ = 8) | exact (rfl : _ = 9) | exact (rfl : _ = 10) | exact (rfl : _ = 11) | exact (rfl : _ = 12) | exact (rfl : _ = 13) | exact (rfl : _ = 14) | exact (rfl : _ = 15) | exact (rfl : _ = 16) | exact (rfl : _ = 17) | exact (rfl : _ = 18) | exact (rfl : _ = 19) | exact (rfl : _ = 20) | exact (rfl : _ = 21) | exact (rfl : _ = 22) | exact (rfl : _ = 23) | exact (rfl : _ = 24) | exact (rfl : _ = 25)) ?_
    | refine Plan.loadC (key := 1000) (q := 0) rfl rfl rfl rfl rfl rfl (obj_reads1 rfl) (by first | exact Try.underlying3 | exact Try.underlying9 | exact Try.underlying27 | exact Try.underlying4 | exact Try.underlying5 | exact Try.underlying118 | exact Try.underlying25 | exact Try.underlying35 | exact Try.underlying120 | exact Try.underlying23 | exact Try.underlying62) (by rfl) (by decide) ?_
    | refine Plan.loadC (key := 1000) (q := 1) rfl rfl rfl rfl rfl rfl (obj_reads1 rfl) (by first | exact Try.underlying3 | exact Try.underlying9 | exact Try.underlying27 | exact Try.underlying4 | exact Try.underlying5 | exact Try.underlying118 | exact Try.underlying25 | exact Try.underlying35 | exact Try.underlying120 | exact Try.underlying23 | exact Try.underlying62) (by rfl) (by decide) ?_
    | refine Plan.loadC (key := 1000) (q := 2) rfl rfl rfl rfl rfl rfl (obj_reads1 rfl) (by first | exact Try.underlying3 | exact Try.underlying9 | exact Try.underlying27 | exact Try.underlying4 | exact Try.underlying5 | exact Try.underlying118 | exact Try.underlying25 | exact Try.underlying35 | exact Try.underlying120 | exact Try.underlying23 | exact Try.underlying62) (by rfl) (by decide) ?_
    | refine Plan.eqlPtr rfl rfl rfl rfl (by kernel_rfl) ?_
    | refine Plan.neqPtr rfl rfl rfl rfl (by kernel_rfl) ?_
    | refine J.seq (J.region mixed hI (by kernel_rfl) ?_)
    | refine J.region mixed hI (by kernel_rfl) ?_
    | refine J.seq (J.seq (J.region mixed hI (by kernel_rfl) ?_))
    | refine J.condF rfl ?_
    | refine J.condT rfl ?_
    | refine J.skip ?_)
    refine J.condD rfl (fun h3 => ?_) (fun h3 => ?_)
    · omega
    rw [← htail]
    repeat (first
    | refine Plan.move rfl rfl rfl rfl ?_
    | refine Plan.assign rfl rfl rfl rfl ?_
    | refine Plan.skip rfl rfl ?_
    | refine Plan.extract rfl rfl rfl rfl rfl ?_
    | refine Plan.pick rfl rfl rfl rfl rfl ?_
    | refine Plan.lenStr rfl rfl rfl rfl Try.underlying9 ?_
    | refine Plan.lenE rfl rfl rfl rfl Try.underlying27 ?_
    | (refine Plan.ints rfl rfl rfl rfl rfl rfl ?_; (first | refine Plan.int (i64u8 _) ?_ | refine Plan.int (i64r (by omega)) ?_ | refine Plan.int (u64r (by omega)) ?_ | refine Plan.int (u8r (by omega)) ?_ | refine Plan.int (u16r (by omega)) ?_ | refine Plan.int (quoN (by omega)) ?_ | refine Plan.int (remN _ _) ?_ | refine Plan.int (u8N _) ?_ | skip))
    | refine Plan.un rfl rfl rfl rfl rfl ?_
    | refine Plan.lenB rfl rfl rfl rfl (by first | exact Sub.refl _ | exact Sub.own | exact Sub.old (fun _ h => h) | exact Sub.oldOwn (fun _ h => h) | exact Sub.nilRow | exact Sub.ownLower hB | exact Sub.nilOwn (fun _ h => Nat.le_trans hB h.size)) Try.underlying27 ?_
    | (refine Plan.convInt rfl rfl rfl rfl (by first | exact Try.underlying3 | exact Try.underlying5 | exact Try.underlying118 | exact Try.underlying122 | exact Try.underlying2 | exact Try.underlying100 | exact Try.underlying147 | exact Try.underlying21 | exact Try.underlying25) (by first | exact Try.underlying3 | exact Try.underlying5 | exact Try.underlying118 | exact Try.underlying122 | exact Try.underlying2 | exact Try.underlying100 | exact Try.underlying147 | exact Try.underlying21 | exact Try.underlying25) ?_; (first | refine Plan.int (i64u8 _) ?_ | refine Plan.int (i64r (by omega)) ?_ | refine Plan.int (u64r (by omega)) ?_ | refine Plan.int (u8r (by omega)) ?_ | refine Plan.int (u16r (by omega)) ?_ | refine Plan.int (quoN (by omega)) ?_ | refine Plan.int (remN _ _) ?_ | refine Plan.int (u8N _) ?_ | skip))
    | refine Plan.nilOk rfl rfl rfl rfl ?_
    | refine Plan.fieldC rfl rfl rfl rfl (by first | exact Try.underlying74 | exact Try.underlying71 | exact Try.underlying48 | exact Try.underlying46 | exact Try.underlying42 | exact Try.underlying116 | exact Try.underlying105 | exact Try.underlying124 | exact Try.underlying55 | exact Try.underlying69 | exact Try.underlying51) rfl (by kernel_rfl) (by first | exact (rfl : _ = 0) | exact (rfl : _ = 1) | exact (rfl : _ = 2) | exact (rfl : _ = 3) | exact (rfl : _ = 4) | exact (rfl : _ = 5) | exact (rfl : _ = 6) | exact (rfl : _ = 7) | exact (rfl : _ = 8) | exact (rfl : _ = 9) | exact (rfl : _ = 10) | exact (rfl : _ = 11) | exact (rfl : _ = 12) | exact (rfl : _ = 13) | exact (rfl : _ = 14) | exact (rfl : _ = 15) | exact (rfl : _ = 16) | exact (rfl : _ = 17) | exact (rfl : _ = 18) | exact (rfl : _ = 19) | exact (rfl : _ = 20) | exact (rfl : _ = 21) | exact (rfl : _ = 22) | exact (rfl : _ = 23) | exact (rfl : _ = 24) | exact (rfl : _ = 25)) ?_
    | refine Plan.loadC (key := 1000) (q := 0) rfl rfl rfl rfl rfl rfl (obj_reads1 rfl) (by first | exact Try.underlying3 | exact Try.underlying9 | exact Try.underlying27 | exact Try.underlying4 | exact Try.underlying5 | exact Try.underlying118 | exact Try.underlying25 | exact Try.underlying35 | exact Try.underlying120 | exact Try.underlying23 | exact Try.underlying62) (by rfl) (by decide) ?_
    | refine Plan.loadC (key := 1000) (q := 1) rfl rfl rfl rfl rfl rfl (obj_reads1 rfl) (by first | exact Try.underlying3 | exact Try.underlying9 | exact Try.underlying27 | exact Try.underlying4 | exact Try.underlying5 | exact Try.underlying118 | exact Try.underlying25 | exact Try.underlying35 | exact Try.underlying120 | exact Try.underlying23 | exact Try.underlying62) (by rfl) (by decide) ?_
    | refine Plan.loadC (key := 1000) (q := 2) rfl rfl rfl rfl rfl rfl (obj_reads1 rfl) (by first | exact Try.underlying3 | exact Try.underlying9 | exact Try.underlying27 | exact Try.underlying4 | exact Try.underlying5 | exact Try.underlying118 | exact Try.underlying25 | exact Try.underlying35 | exact Try.underlying120 | exact Try.underlying23 | exact Try.underlying62) (by rfl) (by decide) ?_
    | refine Plan.eqlPtr rfl rfl rfl rfl (by kernel_rfl) ?_
    | refine Plan.neqPtr rfl rfl rfl rfl (by kernel_rfl) ?_
    | refine J.seq (J.region mixed hI (by kernel_rfl) ?_)
    | refine J.region mixed hI (by kernel_rfl) ?_
    | refine J.seq (J.seq (J.region mixed hI (by kernel_rfl) ?_))
    | refine J.condF rfl ?_
    | refine J.condT rfl ?_
    | refine J.skip ?_)
    refine Plan.regroup [diskC β (crashOf l f keep at_ turn) f r] (by kernel_rfl) hI (key := 1000) rfl ((hclose _).trans Ent.addEmp) ?_
    refine Plan.callC (key := 1000) (q := 0) rfl rfl rfl (disk_Sync β (crashOf l f keep at_ turn) f r) Try.func33 rfl rfl (by intro _ e; cases e; decide) (by repeat (first | exact Opnds.nil | refine Opnds.cons rfl (by first | exact Sub.refl _ | exact Sub.own | exact Sub.old (fun _ h => h) | exact Sub.oldOwn (fun _ h => h) | exact Sub.nilRow | exact Sub.exIn hbe) ?_)) rfl hA rfl ?_
    intro _ _
    exact Nrm.retC0 (key := 1000) () rfl rfl rfl trivial Ent.one (.inl rfl)
end Go.Proofs.Ytepgphflnelpoaa
end

section
set_option linter.unusedSimpArgs false
set_option linter.unusedVariables false
set_option maxRecDepth 20000
namespace Go.Proofs.Ytepgphflnelpoaa
open Go.Free Go.RowKit Go.Proofs

def evBod (e : EvV) : List UInt8 := 0 :: encB e
def bodOf (m : LogV) : List (List UInt8) := (if m.b = true then [1 :: m.s] else []) ++ m.l.map evBod
def reL (L : List EvV) : List EvV := L.map fun e => decR (encB e)
theorem evs_re {L : List EvV} (h : ∀ e ∈ L, rightP e) : evsC (reL L) = evsC L := by
  induction L with
  | nil => rfl
  | cons e r ih =>
    have h1 := (dec_back (h e List.mem_cons_self)).2
    have h2 := ih fun x hx => h x (List.mem_cons_of_mem _ hx)
    simp only [reL, List.map_cons, evsC, List.flatMap_cons] at h2 ⊢
    rw [h1, h2]
theorem re_ok (L : List EvV) : ∀ x ∈ reL L, x.okV := fun x hx => by
  obtain ⟨e, _, rfl⟩ := List.mem_map.1 hx
  exact decR_ok _
theorem frames_evs (L : List EvV) : frames (L.map evBod) = L.flatMap evF := by
  induction L with
  | nil => rfl
  | cons e r ih => rw [List.map_cons, frames_cons, ih, List.flatMap_cons]; rfl
theorem rwB_bod (s : List UInt8) (L : List EvV) : rwB s L = frames (bodOf ⟨s, true, L⟩) := by
  unfold bodOf rwB
  rw [if_pos rfl, frames_append, frames_evs, frames_cons]
  simp [frames]
theorem take_ev {m : LogV} {f : Bool} {e : EvV} (h : rightP e) : takeM m (evBod e) f = some ⟨m.s, m.b, m.l ++ [decR (encB e)]⟩ := by
  unfold takeM evBod
  simp [(dec_back h).1]
theorem takes_evs : ∀ (L : List EvV) (f : Bool) (m : LogV) (p : Nat), (∀ e ∈ L, rightP e) → takesM (L.map evBod) f m p = (⟨m.s, m.b, m.l ++ reL L⟩, p + (frames (L.map evBod)).length)
  | [], f, m, p, _ => by simp [takesM, reL, frames]
  | e :: r, f, m, p, h => by
    have h1 : takeM m (evBod e) f = some ⟨m.s, m.b, m.l ++ [decR (encB e)]⟩ := take_ev (h e List.mem_cons_self)
    rw [List.map_cons, takes_some h1, takes_evs r false _ _ fun x hx => h x (List.mem_cons_of_mem _ hx), frames_cons, List.length_append, fPut_length]
    simp only [reL, List.map_cons, List.append_assoc, List.cons_append, List.nil_append, Prod.mk.injEq, true_and]
    omega
theorem bod_le {m : LogV} (hs : m.s.length ≤ 65528) (hr : ∀ e ∈ m.l, rightP e) : ∀ x ∈ bodOf m, x.length ≤ 65529 := fun x hx => by
  unfold bodOf at hx
  rcases List.mem_append.1 hx with hx | hx
  · split at hx
    · rw [List.mem_singleton.1 hx, List.length_cons]; omega
    · cases hx
  · obtain ⟨e, he, rfl⟩ := List.mem_map.1 hx
    have := encB_le (hr e he)
    unfold evBod; rw [List.length_cons]; omega
/-- So many bodies of a log that was laid, ahead of whatever: the snapshot if there is one, and so many events. -/
theorem takes_bod (m : LogV) (j : Nat) (hm : m.b = false → m.s = []) (hj : (if m.b = true then 1 else 0) ≤ j) (hr : ∀ e ∈ m.l, rightP e) :
    takesM ((bodOf m).take j) true log0 0 = (⟨m.s, m.b, reL (m.l.take (j - (if m.b = true then 1 else 0)))⟩, (frames ((bodOf m).take j)).length) := by
  obtain ⟨s, b, L⟩ := m
  dsimp only at *
  have hr' : ∀ k, ∀ e ∈ L.take k, rightP e := fun k e he => hr e (List.mem_of_mem_take he)
  cases b with
  | true =>
    simp only [if_true] at hj ⊢
    obtain ⟨i, rfl⟩ : ∃ i, j = i + 1 := ⟨j - 1, by omega⟩
    have e1 : (bodOf ⟨s, true, L⟩).take (i + 1) = (1 :: s) :: (L.take i).map evBod := by unfold bodOf; simp
    have h1 : takeM log0 (1 :: s) true = some ⟨s, true, []⟩ := rfl
    rw [e1, takes_some h1, takes_evs _ _ _ _ (hr' i), Nat.add_sub_cancel, frames_cons, List.length_append, fPut_length]
    simp only [List.nil_append, Prod.mk.injEq, true_and]
    omega
  | false =>
    have e1 : (bodOf ⟨s, false, L⟩).take j = (L.take j).map evBod := by unfold bodOf; simp
    obtain rfl := hm rfl
    rw [e1, takes_evs _ _ _ _ (hr' j)]
    simp [log0]
theorem open_bod (m : LogV) (hm : m.b = false → m.s = []) (hs : m.s.length ≤ 65528) (hr : ∀ e ∈ m.l, rightP e) : openM (frames (bodOf m)) = (⟨m.s, m.b, reL m.l⟩, (frames (bodOf m)).length) := by
  unfold openM
  rw [scan_all _ (bod_le hs hr)]
  have hl : (bodOf m).length = (if m.b = true then 1 else 0) + m.l.length := by unfold bodOf; split <;> simp [Nat.add_comm]
  have := takes_bod m (bodOf m).length hm (by rw [hl]; omega) hr
  rw [List.take_length, hl, Nat.add_sub_cancel_left, List.take_length] at this
  exact this
theorem crash_all (l : List UInt8) (k a t : Int) : crashOf l l.length k a t = l := by
  unfold crashOf
  rw [List.take_length, List.drop_length, List.take_nil]
  unfold tailOf
  rw [if_neg (by simp), List.append_nil]
theorem rwM_cases (m : LogV) (f : Nat) (l : List UInt8) (df r : Nat) (s : List UInt8) (L : List EvV) (hs : s.length ≤ 65528) :
    rwM m f l df r s L = ((m, f), (l, df), 1) ∨ rwM m f l df r s L = ((m, f), (l, df), 9) ∨ ((∀ e ∈ L, rightP e) ∧ (rwB s L).length ≤ r ∧ rwM m f l df r s L = ((⟨s, true, L⟩, L.length), (rwB s L, (rwB s L).length), 0)) := by
  unfold rwM
  rw [if_neg (by omega)]
  cases h : okAll L with
  | false => exact .inl (by simp)
  | true =>
    simp only [Bool.true_eq_false, if_false]
    by_cases hf : (rwB s L).length ≤ r
    · rw [if_pos hf]; exact .inr (.inr ⟨okAll_iff.1 h, hf, rfl⟩)
    · rw [if_neg hf]; exact .inr (.inl rfl)
theorem sub8F {w0 : World} {u : Value} {sc : List OpV8} (h : opsH sc w0 u) : Sub (fun w => Below w0.heap.size w0 w) (.ex u) (ops8F sc) := fun w y hw hy => by
  simp only [Fa.den] at hy
  subst hy
  exact ⟨rowH_mono hw h.1, fun o ho => rowH_mono hw (h.2 o ho)⟩
theorem below_froz {w0 : World} : ∀ w, Below w0.heap.size w0 w → ∀ b, b < w0.heap.size → b < w.heap.size ∧ w.heap[b]? = w0.heap[b]? := fun w hw b hb => ⟨Nat.lt_of_lt_of_le hb hw.size, hw.block b hb⟩
end Go.Proofs.Ytepgphflnelpoaa
end

section
set_option linter.unusedSimpArgs false
set_option linter.unusedVariables false
set_option maxRecDepth 20000
namespace Go.Proofs.Ytepgphflnelpoaa
open Go.Free Go.RowKit Go.Proofs
set_option maxHeartbeats 8000000

def rlE (w0 : World) (u uL : Value) (s : List UInt8) (k a t : Int) (γ β : Nat) (sc : List OpV8) (x : Nat × LogV × Nat × List UInt8 × Nat) : Env :=
  [(0, .ex u), (1, .ex (str s)), (2, .ex uL), (3, .ex (vi k)), (4, .ex (vi a)), (5, .ex (vi t)), (13, .ex (ptr γ)), (14, .ex (ptr β)), (46, .ex (vi sc.length)), (47, .ex (vi x.1)),
   (1000, heap (newB w0) [logC γ β x.2.1 x.2.2.1, diskC β x.2.2.2.1 x.2.2.2.2 65536])]
theorem add_bounds {m : LogV} {l : List UInt8} {r : Nat} {e : EvV} (hl : l.length ≤ r) : (addM m l r e).1.l.length ≤ m.l.length + 1 ∧ (addM m l r e).2.1.length ≤ r := by
  unfold addM
  split
  · split
    · rename_i h
      exact ⟨by simp, by rw [List.length_append]; exact h⟩
    · exact ⟨Nat.le_succ _, hl⟩
  · exact ⟨Nat.le_succ _, hl⟩
theorem lawRws (sc : List OpV8) (s : List UInt8) (L : List EvV) (k a t : Int) (hl : sc.length ≤ 9223372036854775807) (hok : ∀ o ∈ sc, o.okV) (hs : s.length ≤ 9223372036854775807) (hL : L.length ≤ 9223372036854775807)
    (hLk : ∀ e ∈ L, e.okV) (hk : in64 k) (ha : in64 a) (ht : in64 t) :
    Spc Try.prog 7 [ops8F sc, .ex (str s), row 26 (evsC L), .ex (vi k), .ex (vi a), .ex (vi t)] fun _ => .ex (.bool true) := by
  refine Spc.intro Try.func7 rfl (Nat.le_of_ble_eq_true rfl) fun w0 => ?_
  have hI := hIb w0
  have hA := Own.below w0
  refine J.nameOld (t := 2) rfl fun uL huL => ?_
  refine J.nameOld (t := 0) rfl fun u hu => ?_
  have hs8 := sub8 hu
  have hsL := subL huL
  have hbg := begun_fn 65536
  have hc : clampR 65536 = 65536 := by decide
  rw [hc] at hbg
  refine J.heap0 1000 (newB w0) ?_
  repeat (first | refine Plan.assign rfl rfl rfl rfl ?_ | refine J.seq (J.region mixed hI (by kernel_rfl) ?_) | refine J.seq (J.seq (J.region mixed hI (by kernel_rfl) ?_)))
  refine Plan.call (B := w0.heap.size) rfl rfl rfl (awakeL_fn) Try.func9 rfl rfl (hBb w0) (by repeat (exact Opnds.nil)) ?_
  repeat (first | refine Plan.move rfl rfl rfl rfl ?_ | refine Plan.un rfl rfl rfl rfl rfl ?_)
  refine Plan.call (B := w0.heap.size) rfl rfl rfl (few8_fn sc hl hok) Try.func19 rfl rfl (hBb w0) (Opnds.cons rfl (sub8F hu) Opnds.nil) ?_
  cases hfw : few8 sc with
  | false =>
    repeat (first | refine Plan.move rfl rfl rfl rfl ?_ | refine Plan.skip rfl rfl ?_ | refine Plan.pick rfl rfl rfl rfl rfl ?_ | refine Plan.un rfl rfl rfl rfl rfl ?_ | refine J.seq (J.region mixed hI (by kernel_rfl) ?_) | refine J.condT rfl ?_)
    refine Plan.call (B := w0.heap.size) rfl rfl rfl (awakeL_fn) Try.func9 rfl rfl (hBb w0) (by repeat (exact Opnds.nil)) ?_
    repeat (refine Plan.assign rfl rfl rfl rfl ?_)
    exact J.ret (Nrm.ret1 rfl (fun _ h => h) rfl fun B _ => Sub.refl _)
  | true =>
  obtain ⟨hsc, hfo⟩ := few8_iff.1 hfw
  repeat (first | refine Plan.move rfl rfl rfl rfl ?_ | refine Plan.pick rfl rfl rfl rfl rfl ?_ | refine Plan.lenStr rfl rfl rfl rfl Try.underlying9 ?_ | (refine Plan.ints rfl rfl rfl rfl rfl rfl ?_; (skip)) | refine Plan.un rfl rfl rfl rfl rfl ?_)
  refine Plan.splitD (fun h1 => ?_) (fun h1 => ?_)
  · repeat (first | refine Plan.skip rfl rfl ?_ | refine Plan.pick rfl rfl rfl rfl rfl ?_ | refine J.seq (J.region mixed hI (by kernel_rfl) ?_) | refine J.condT rfl ?_)
    refine Plan.call (B := w0.heap.size) rfl rfl rfl (awakeL_fn) Try.func9 rfl rfl (hBb w0) (by repeat (exact Opnds.nil)) ?_
    repeat (refine Plan.assign rfl rfl rfl rfl ?_)
    exact J.ret (Nrm.ret1 rfl (fun _ h => h) rfl fun B _ => Sub.refl _)
  repeat (refine Plan.move rfl rfl rfl rfl ?_)
  refine Plan.lenRow (m := L.length) rfl rfl rfl rfl hsL Try.underlying35 (by rw [evs_len]) (by decide) ?_
  repeat (first | refine Plan.pick rfl rfl rfl rfl rfl ?_ | (refine Plan.ints rfl rfl rfl rfl rfl rfl ?_; (skip)))
  refine J.condD rfl (fun h2 => ?_) (fun h2 => ?_)
  · repeat (refine J.seq (J.region mixed hI (by kernel_rfl) ?_))
    refine Plan.call (B := w0.heap.size) rfl rfl rfl (awakeL_fn) Try.func9 rfl rfl (hBb w0) (by repeat (exact Opnds.nil)) ?_
    repeat (refine Plan.assign rfl rfl rfl rfl ?_)
    exact J.ret (Nrm.ret1 rfl (fun _ h => h) rfl fun B _ => Sub.refl _)
  repeat (first | refine J.seq (J.region mixed hI (by kernel_rfl) ?_) | refine J.skip ?_)
  refine Plan.callN (key := 1000) rfl rfl rfl (hbg) Try.func17 rfl rfl (by intro _ e; cases e; decide) (by repeat (first | exact Opnds.nil | refine Opnds.cons rfl (by exact Sub.refl _) ?_)) rfl hA ?_
  rintro ⟨γ, β⟩ _
  repeat (first | refine Plan.move rfl rfl rfl rfl ?_ | refine Plan.assign rfl rfl rfl rfl ?_ | refine Plan.extract rfl rfl rfl rfl rfl ?_)
  refine J.open1 (key := 1000) rfl ?_
  repeat (first | refine Plan.move rfl rfl rfl rfl ?_ | refine Plan.eqlPtr rfl rfl rfl rfl (by kernel_rfl) ?_ | refine J.seq (J.seq (J.region mixed hI (by kernel_rfl) ?_)) | refine J.condF rfl ?_ | refine J.skip ?_)
  refine Plan.lenRow (m := sc.length) rfl rfl rfl rfl hs8 Try.underlying53 (by rw [ops8_len]) (by decide) ?_
  repeat (refine Plan.move rfl rfl rfl rfl ?_)
  refine J.block (J.loop (rlE w0 u uL s k a t γ β sc) (fun x => x.1 ≤ sc.length ∧ x.2.1.l.length ≤ x.1 ∧ x.2.2.2.1.length ≤ 65536) (fun x => sc.length - x.1) (0, log0, 0, [], 0) ⟨Nat.zero_le _, Nat.zero_le _, Nat.zero_le _⟩ ?_ ?_)
  · repeat (first | exact Weak.nil | refine Weak.cons rfl (Sub.refl _) ?_)
  rintro ⟨i, m, fl, l, df⟩ ⟨hi, hml, hll⟩
  simp only at hi hml hll
  change J _ _ _ _ _ (rlE w0 u uL s k a t γ β sc (i, m, fl, l, df))
  repeat (first | (refine Plan.ints rfl rfl rfl rfl rfl rfl ?_; (skip)) | refine J.seq (J.region mixed hI (by kernel_rfl) ?_))
  refine J.seq (J.condD rfl (fun hc => ?_) (fun hc => ?_))
  · have hlt : i < sc.length := by
      dsimp only at hc; omega
    obtain ⟨o, hoe⟩ : ∃ o, o = sc[i] := ⟨_, rfl⟩
    have hget : sc.getD i op80 = o := by simp [hoe, List.getD_eq_getElem?_getD, List.getElem?_eq_getElem hlt]
    have hoM : o ∈ sc := hoe ▸ List.getElem_mem hlt
    have hov := hok o hoM
    repeat (refine J.skip ?_)
    refine J.seq (J.block ?_)
    repeat (first | refine Plan.move rfl rfl rfl rfl ?_ | refine Plan.assign rfl rfl rfl rfl ?_ | refine J.seq (J.region mixed hI (by kernel_rfl) ?_))
    refine Plan.indexAddr OpV8.enc 32 sc op80 rfl rfl rfl rfl hs8 rfl elt8 enc8 (by omega) (by dsimp only; omega) ?_
    rw [Int.toNat_natCast, hget]
    refine Plan.fieldPtr (us := [vi o.kind]) rfl rfl rfl rfl (Sub.refl _) Try.underlying51 rfl (by kernel_rfl) rfl ?_
    refine Plan.load rfl rfl rfl rfl (Sub.refl _) Try.underlying3 rfl ?_
    repeat (fail)
    refine J.block ?_
    repeat (first | refine Plan.assign rfl rfl rfl rfl ?_ | (refine Plan.ints rfl rfl rfl rfl rfl rfl ?_; (skip)) | refine J.seq (J.region mixed hI (by kernel_rfl) ?_))
    refine J.condE rfl (fun k1 => ?_) (fun k1 => ?_)
    · repeat (first | refine Plan.move rfl rfl rfl rfl ?_ | refine J.region mixed hI (by kernel_rfl) ?_)
      refine Plan.indexAddr OpV8.enc 32 sc op80 rfl rfl rfl rfl hs8 rfl elt8 enc8 (by omega) (by dsimp only; omega) ?_
      rw [Int.toNat_natCast, hget]
      refine Plan.fieldPtr (us := o.e.enc) rfl rfl rfl rfl (Sub.refl _) Try.underlying51 rfl (by kernel_rfl) rfl ?_
      refine Plan.loadAggP rfl rfl rfl rfl (Sub.refl _) Try.underlying48 rfl (by rw [encE]; kernel_rfl) ?_
      have hab := add_bounds (m := m) (l := l) (r := 65536) (e := o.e) hll
      have had := add_fn γ β m fl l df 65536 o.e hov.2.2.2.2.1 (by omega) hll (Nat.le_refl _)
      generalize addM m l 65536 o.e = ad at *
      refine Plan.callL (key := 1000) [0, 1] [] rfl rfl rfl (had) Try.func21 rfl rfl (by intro _ e; cases e; decide) (by repeat (first | exact Opnds.nil | refine Opnds.cons rfl (by exact Sub.refl _) ?_)) rfl hA rfl rfl rfl ?_
      intro _ _
      repeat (first | refine Plan.move rfl rfl rfl rfl ?_ | (refine Plan.ints rfl rfl rfl rfl rfl rfl ?_; (refine Plan.int (i64r (by omega)) ?_)) | refine J.region mixed hI (by kernel_rfl) ?_)
      refine Plan.int (y := ((i + 1 : Nat) : Int)) (by omega) ?_
      repeat (fail)
      exact Nrm.next (i + 1, ad.1, fl, ad.2.1, df) ⟨by dsimp only; omega, by dsimp only; omega, hab.2⟩ (by dsimp only; omega) (by repeat (first | exact Weak.nil | refine Weak.cons rfl (Sub.refl _) ?_))
    repeat (first | refine Plan.assign rfl rfl rfl rfl ?_ | (refine Plan.ints rfl rfl rfl rfl rfl rfl ?_; (skip)) | refine J.seq (J.region mixed hI (by kernel_rfl) ?_))
    refine J.condE rfl (fun k2 => ?_) (fun k2 => ?_)
    · repeat (first | refine Plan.move rfl rfl rfl rfl ?_ | refine J.region mixed hI (by kernel_rfl) ?_)
      refine Plan.callL (key := 1000) [0, 1] [] rfl rfl rfl (log_Sync γ β m fl l df 65536 (by omega)) Try.func20 rfl rfl (by intro _ e; cases e; decide) (by repeat (first | exact Opnds.nil | refine Opnds.cons rfl (by exact Sub.refl _) ?_)) rfl hA rfl rfl rfl ?_
      intro _ _
      repeat (first | refine Plan.move rfl rfl rfl rfl ?_ | (refine Plan.ints rfl rfl rfl rfl rfl rfl ?_; (refine Plan.int (i64r (by omega)) ?_)) | refine J.region mixed hI (by kernel_rfl) ?_)
      refine Plan.int (y := ((i + 1 : Nat) : Int)) (by omega) ?_
      repeat (fail)
      exact Nrm.next (i + 1, m, m.l.length, l, l.length) ⟨by dsimp only; omega, by dsimp only; omega, hll⟩ (by dsimp only; omega) (by repeat (first | exact Weak.nil | refine Weak.cons rfl (Sub.refl _) ?_))
    · repeat (first | refine Plan.move rfl rfl rfl rfl ?_ | (refine Plan.ints rfl rfl rfl rfl rfl rfl ?_; (refine Plan.int (i64r (by omega)) ?_)) | refine J.region mixed hI (by kernel_rfl) ?_ | refine J.skip ?_)
      refine Plan.int (y := ((i + 1 : Nat) : Int)) (by omega) ?_
      repeat (fail)
      exact Nrm.next (i + 1, m, fl, l, df) ⟨by dsimp only; omega, by dsimp only; omega, hll⟩ (by dsimp only; omega) (by repeat (first | exact Weak.nil | refine Weak.cons rfl (Sub.refl _) ?_))
  · refine J.exit ?_
    have hrw : SpcC Try.prog 18 [.ex (ptr γ), .ex (str s), .ex uL] (allC ([logC γ β m fl, diskC β l df 65536] ++ [frozenC w0 fun b => b < w0.heap.size])) (fun _ : Unit => True) (fun _ => .ex (vi (rwM m fl l df 65536 s L).2.2))
      (fun _ => allC ([logC γ β (rwM m fl l df 65536 s L).1.1 (rwM m fl l df 65536 s L).1.2, diskC β (rwM m fl l df 65536 s L).2.1.1 (rwM m fl l df 65536 s L).2.1.2 65536] ++ [frozenC w0 fun b => b < w0.heap.size])) :=
      rewrite_fn γ β m fl l df 65536 s L uL w0 (fun b => b < w0.heap.size) (frozen_row huL fun b hb => hb) (by omega) (by omega) hLk
    have hcs := rwM_cases m fl l df 65536 s L (by omega)
    rcases hcs with he | he | ⟨hr, hfit, he⟩
    · rw [he] at hrw
      repeat (first | refine Plan.move rfl rfl rfl rfl ?_ | refine J.seq (J.seq (J.region mixed hI (by kernel_rfl) ?_)))
      refine Plan.callFz (key := 1000) [0, 1] [] rfl rfl rfl hrw Try.func18 rfl rfl (by intro _ e; cases e; decide) (by repeat (first | exact Opnds.nil | refine Opnds.cons rfl (by exact Sub.refl _) ?_)) rfl hA rfl rfl rfl below_froz (fun b hb hb2 => by simp only [newB] at hb; omega) ?_
      intro _ _
      repeat (first | refine Plan.move rfl rfl rfl rfl ?_ | refine Plan.assign rfl rfl rfl rfl ?_ | refine Plan.skip rfl rfl ?_ | refine Plan.pick rfl rfl rfl rfl rfl ?_ | (refine Plan.ints rfl rfl rfl rfl rfl rfl ?_; (skip)) | refine J.seq (J.region mixed hI (by kernel_rfl) ?_) | refine J.condT rfl ?_)
      exact J.ret (Nrm.ret1 rfl (fun _ h => h) rfl fun B _ => Sub.refl _)
    · rw [he] at hrw
      repeat (first | refine Plan.move rfl rfl rfl rfl ?_ | refine J.seq (J.seq (J.region mixed hI (by kernel_rfl) ?_)))
      refine Plan.callFz (key := 1000) [0, 1] [] rfl rfl rfl hrw Try.func18 rfl rfl (by intro _ e; cases e; decide) (by repeat (first | exact Opnds.nil | refine Opnds.cons rfl (by exact Sub.refl _) ?_)) rfl hA rfl rfl rfl below_froz (fun b hb hb2 => by simp only [newB] at hb; omega) ?_
      intro _ _
      repeat (first | refine Plan.move rfl rfl rfl rfl ?_ | refine Plan.assign rfl rfl rfl rfl ?_ | refine Plan.pick rfl rfl rfl rfl rfl ?_ | (refine Plan.ints rfl rfl rfl rfl rfl rfl ?_; (skip)) | refine J.seq (J.region mixed hI (by kernel_rfl) ?_) | refine J.condT rfl ?_)
      exact J.ret (Nrm.ret1 rfl (fun _ h => h) rfl fun B _ => Sub.refl _)
    rw [he] at hrw
    dsimp only at hrw
    have hob := open_bod ⟨s, true, L⟩ (fun h => by cases h) (by dsimp only; omega) hr
    rw [← rwB_bod] at hob
    dsimp only at hob
    have hev := evs_re hr
    have hrl : (reL L).length = L.length := by simp [reL]
    have hro := re_ok L
    obtain ⟨b, hbe⟩ : ∃ b, b = rwB s L := ⟨_, rfl⟩
    rw [← hbe] at hrw hob hfit
    have hop := open_fn β b b.length 65536 hfit
    rw [hob] at hop
    simp only [List.take_length, if_neg (Nat.lt_irrefl b.length)] at hop
    have hcr := disk_Crash β b b.length 65536 k a t hfit (Nat.le_refl _) hk ha ht
    rw [crash_all] at hcr
    obtain ⟨M, hM⟩ : ∃ M, M = reL L := ⟨_, rfl⟩
    rw [← hM] at hop hev hrl hro
    clear hob hbe
    repeat (first | refine Plan.move rfl rfl rfl rfl ?_ | refine J.seq (J.seq (J.region mixed hI (by kernel_rfl) ?_)))
    refine Plan.callFz (key := 1000) [0, 1] [] rfl rfl rfl hrw Try.func18 rfl rfl (by intro _ e; cases e; decide) (by repeat (first | exact Opnds.nil | refine Opnds.cons rfl (by exact Sub.refl _) ?_)) rfl hA rfl rfl rfl below_froz (fun b hb hb2 => by simp only [newB] at hb; omega) ?_
    intro _ _
    repeat (first | refine Plan.move rfl rfl rfl rfl ?_ | refine Plan.assign rfl rfl rfl rfl ?_ | (refine Plan.ints rfl rfl rfl rfl rfl rfl ?_; (skip)) | refine J.seq (J.region mixed hI (by kernel_rfl) ?_) | refine J.condF rfl ?_ | refine J.skip ?_)
    refine Plan.callC (key := 1000) (q := 1) rfl rfl rfl (hcr) Try.func23 rfl rfl (by intro _ e; cases e; decide) (by repeat (first | exact Opnds.nil | refine Opnds.cons rfl (by exact Sub.refl _) ?_)) rfl hA rfl ?_
    intro _ _
    repeat (first | refine Plan.move rfl rfl rfl rfl ?_ | refine J.seq (J.region mixed hI (by kernel_rfl) ?_))
    refine Plan.callC (key := 1000) (q := 1) rfl rfl rfl (hop) Try.func12 rfl rfl (by intro _ e; cases e; decide) (by repeat (first | exact Opnds.nil | refine Opnds.cons rfl (by exact Sub.refl _) ?_)) rfl hA rfl ?_
    intro δ _
    repeat (first | refine Plan.move rfl rfl rfl rfl ?_ | refine Plan.assign rfl rfl rfl rfl ?_ | refine Plan.extract rfl rfl rfl rfl rfl ?_)
    refine J.regroup (key := 1000) [logC γ β ⟨s, true, L⟩ L.length, logC δ β ⟨s, true, M⟩ M.length, diskC β b b.length 65536] rfl (Ent.sep (Ent.refl _) Ent.one) ?_
    repeat (first | refine Plan.move rfl rfl rfl rfl ?_ | refine Plan.pick rfl rfl rfl rfl rfl ?_ | (refine Plan.ints rfl rfl rfl rfl rfl rfl ?_; (skip)) | refine Plan.eqlPtr rfl rfl rfl rfl (by kernel_rfl) ?_ | refine J.seq (J.region mixed hI (by kernel_rfl) ?_) | refine J.seq (J.seq (J.region mixed hI (by kernel_rfl) ?_)) | refine J.condF rfl ?_ | refine J.skip ?_)
    refine Plan.callR (key := 1000) (B := 0) (q := 1) rfl rfl rfl (log_Snapshot δ β ⟨s, true, M⟩ M.length) Try.func14 rfl rfl (fun _ _ => Nat.zero_le _) (by repeat (first | exact Opnds.nil | refine Opnds.cons rfl (by exact Sub.refl _) ?_)) rfl rfl (by decide) ?_
    repeat (first | refine Plan.move rfl rfl rfl rfl ?_ | refine Plan.assign rfl rfl rfl rfl ?_ | refine Plan.extract rfl rfl rfl rfl rfl ?_ | refine J.seq (J.region mixed hI (by kernel_rfl) ?_))
    refine Plan.strs rfl rfl rfl rfl rfl rfl ?_
    refine Plan.boolv (y := true) (by simp) ?_
    repeat (first | refine Plan.move rfl rfl rfl rfl ?_ | refine Plan.pick rfl rfl rfl rfl rfl ?_)
    refine Plan.callR (key := 1000) (B := 0) (q := 1) rfl rfl rfl (log_Events δ β ⟨s, true, M⟩ M.length (by dsimp only; omega)) Try.func16 rfl rfl (fun _ _ => Nat.zero_le _) (by repeat (first | exact Opnds.nil | refine Opnds.cons rfl (by exact Sub.refl _) ?_)) rfl rfl (by decide) ?_
    dsimp only
    rw [hev]
    repeat (refine Plan.move rfl rfl rfl rfl ?_)
    refine Plan.call (B := w0.heap.size) rfl rfl rfl (sameE_fn L (by omega) hLk) Try.func15 rfl rfl (hBb w0) (Opnds.cons rfl Sub.own (Opnds.cons rfl hsL Opnds.nil)) ?_
    repeat (first | refine Plan.move rfl rfl rfl rfl ?_ | refine Plan.pick rfl rfl rfl rfl rfl ?_)
    refine Plan.callR (key := 1000) (B := 0) (q := 1) rfl rfl rfl (log_Fast δ β ⟨s, true, M⟩ M.length) Try.func22 rfl rfl (fun _ _ => Nat.zero_le _) (by repeat (first | exact Opnds.nil | refine Opnds.cons rfl (by exact Sub.refl _) ?_)) rfl rfl (by decide) ?_
    repeat (refine Plan.move rfl rfl rfl rfl ?_)
    refine Plan.lenRow (m := L.length) rfl rfl rfl rfl hsL Try.underlying35 (by rw [evs_len]) (by decide) ?_
    repeat (first | refine Plan.move rfl rfl rfl rfl ?_ | refine Plan.pick rfl rfl rfl rfl rfl ?_ | (refine Plan.ints rfl rfl rfl rfl rfl rfl ?_; (skip)))
    refine Plan.boolv (y := true) (by simp [hrl]) ?_
    repeat (refine Plan.move rfl rfl rfl rfl ?_)
    refine Plan.callR (key := 1000) (B := 0) (q := 0) rfl rfl rfl (log_Fast γ β ⟨s, true, L⟩ L.length) Try.func22 rfl rfl (fun _ _ => Nat.zero_le _) (by repeat (first | exact Opnds.nil | refine Opnds.cons rfl (by exact Sub.refl _) ?_)) rfl rfl (by decide) ?_
    repeat (refine Plan.move rfl rfl rfl rfl ?_)
    refine Plan.lenRow (m := L.length) rfl rfl rfl rfl hsL Try.underlying35 (by rw [evs_len]) (by decide) ?_
    repeat (first | refine Plan.assign rfl rfl rfl rfl ?_ | refine Plan.pick rfl rfl rfl rfl rfl ?_ | (refine Plan.ints rfl rfl rfl rfl rfl rfl ?_; (skip)))
    refine Plan.boolv (y := true) (by simp) ?_
    repeat (fail)
    exact J.ret (Nrm.ret1 rfl (fun _ h => h) rfl fun B _ => Sub.refl _)
theorem lawRwsC (sc : List OpV8) (s : List UInt8) (ls : List (List Value)) (k a t : Int) (hl : sc.length ≤ 9223372036854775807) (hok : ∀ o ∈ sc, o.okV) (hs : s.length ≤ 9223372036854775807) (hL : ls.length ≤ 9223372036854775807)
    (hc : ∀ c ∈ ls, CellsOk kdsEvent c) (hk : in64 k) (ha : in64 a) (ht : in64 t) :
    Spc Try.prog 7 [ops8F sc, .ex (str s), row 26 ls.flatten, .ex (vi k), .ex (vi a), .ex (vi t)] fun _ => .ex (.bool true) := by
  obtain ⟨L, h1, h2, h3⟩ := evs_of ls hc
  rw [h2]
  exact lawRws sc s L k a t hl hok hs (by omega) h3 hk ha ht
end Go.Proofs.Ytepgphflnelpoaa
end
