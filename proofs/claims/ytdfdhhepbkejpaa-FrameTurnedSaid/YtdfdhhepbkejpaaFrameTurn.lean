/-
  The law FrameTurned returns true for all arguments.
-/
import Derived.Test.YtdfdhhepbkejpaaFrameFlip
import Derived.Test.YtdfdhhepbkejpaaFrameJoin
import Derived.Test.YtdfdhhepbkejpaaFreeMore2
namespace Go.Proofs.Ytdfdhhepbkejpaa
open Go.Free Go.RowKit Go.Proofs
set_option maxHeartbeats 4000000

theorem and1 (x : Nat) (h : x < 65536) : IntKind.u16.wrap ((BitVec.ofInt IntKind.u16.bits (x : Int) &&& BitVec.ofInt IntKind.u16.bits 1).toNat : Int) = ((x % 2 : Nat) : Int) := by
  have e : (BitVec.ofInt IntKind.u16.bits (x : Int) &&& BitVec.ofInt IntKind.u16.bits 1).toNat = x % 2 := by
    show (BitVec.ofInt 16 (x : Int) &&& BitVec.ofInt 16 1).toNat = _
    rw [BitVec.toNat_and, BitVec.ofInt_natCast, BitVec.toNat_ofNat, Nat.mod_eq_of_lt (by omega)]
    exact Nat.and_one_is_mod x
  rw [e, u16r (by omega)]
theorem bit_test (t : BitVec 16) (j : Nat) : t.getLsbD j = decide (t.toNat / 2 ^ j % 2 = 1) := by
  rw [BitVec.getLsbD, Nat.testBit_eq_decide_div_mod_eq]
theorem bit_nat (pos : Nat) : ((128 / 2 ^ (pos % 8) : Nat) : Int) = (bitAt pos).toNat := by
  have h : pos % 8 < 8 := Nat.mod_lt _ (by decide)
  have e : (bitAt pos).toNat = 128 / 2 ^ (pos % 8) := by
    unfold bitAt
    generalize pos % 8 = r at h
    have : r = 0 ∨ r = 1 ∨ r = 2 ∨ r = 3 ∨ r = 4 ∨ r = 5 ∨ r = 6 ∨ r = 7 := by omega
    rcases this with rfl | rfl | rfl | rfl | rfl | rfl | rfl | rfl <;> rfl
  rw [e]
abbrev selT (t : BitVec 16) : Nat → Bool := fun j => t.getLsbD (15 - j)
/-- The first byte that is turned among the first i bits, or -1. -/
def firstIs (t : BitVec 16) (k i : Nat) (f : Int) : Prop := (f = -1 ∧ ∀ j, j < i → selT t j = false) ∨ ∃ j, j < i ∧ selT t j = true ∧ (∀ q, q < j → selT t q = false) ∧ f = ((k + j) / 8 : Nat)
theorem first_0 (t : BitVec 16) (k : Nat) : firstIs t k 0 (-1) := .inl ⟨rfl, fun j h => by omega⟩
theorem first_no {t : BitVec 16} {k i : Nat} {f : Int} (h : firstIs t k i f) (hs : selT t i = false) : firstIs t k (i + 1) f := by
  rcases h with ⟨h1, h2⟩ | ⟨j, h1, h2, h3, h4⟩
  · refine .inl ⟨h1, fun j hj => ?_⟩
    by_cases e : j = i
    · rw [e]; exact hs
    · exact h2 j (by omega)
  · exact .inr ⟨j, by omega, h2, h3, h4⟩
theorem first_yes {t : BitVec 16} {k i : Nat} {f : Int} (h : firstIs t k i f) (hs : selT t i = true) : firstIs t k (i + 1) (if f < 0 then (((k + i) / 8 : Nat) : Int) else f) := by
  rcases h with ⟨h1, h2⟩ | ⟨j, h1, h2, h3, h4⟩
  · rw [if_pos (by omega)]
    exact .inr ⟨i, by omega, hs, h2, rfl⟩
  · rw [if_neg (by omega)]
    exact .inr ⟨j, by omega, h2, h3, h4⟩
theorem frames_step {ls : List (List UInt8)} {i : Nat} (h : i < ls.length) : (frames (ls.take (i + 1))).length = (frames (ls.take i)).length + ((ls.getD i []).length + 6) := by
  rw [snoc_take h, frames_append, List.length_append, frames_cons, List.length_append, fPut_length]
  simp [frames]
theorem frames_mono {ls : List (List UInt8)} : ∀ {i j : Nat}, i ≤ j → (frames (ls.take i)).length ≤ (frames (ls.take j)).length := by
  intro i j h
  have e : ls.take j = ls.take i ++ (ls.take j).drop i := by
    conv => lhs; rw [← List.take_append_drop i (ls.take j)]
    rw [List.take_take, Nat.min_eq_left h]
  rw [e, frames_append, List.length_append]; omega

def ftE (w0 : World) (l : List (List UInt8)) (t : BitVec 16) (k : Nat) (s : Nat × Int) : Env :=
  [(0, .old w0 (row 1 (ss l))), (2, .ex (.int .u16 t.toNat)), (7, ownB w0.heap.size (burst (frames l) k (selT t) s.1)), (9, .ex (.int .i64 k)), (10, .ex (.int .i64 s.2)), (11, .ex (.int .i64 s.1))]
def ftW (w0 : World) (l g : List (List UInt8)) (n : Nat) (all : Bool) (f : Nat) (w : Nat) : Env :=
  [(0, .old w0 (row 1 (ss l))), (10, .ex (.int .i64 f)), (12, nestB w0.heap.size g), (13, .ex (.int .i64 n)), (14, .ex (.bool all)), (15, .ex (.int .i64 (frames (l.take w)).length)), (16, .ex (.int .i64 w))]

theorem lawFTurned (l : List (List UInt8)) (c t : Int) (hll : l.length ≤ 9223372036854775807) (hc : 0 ≤ c ∧ c ≤ 18446744073709551615) (ht : 0 ≤ t ∧ t ≤ 65535) : Spc Try.prog 10 [row 1 (ss l), .ex (.int .u64 c), .ex (.int .u16 t)] fun _ => .ex (.bool true) := by
  obtain ⟨c, rfl⟩ : ∃ n : Nat, c = n := ⟨c.toNat, by omega⟩
  obtain ⟨t, rfl⟩ : ∃ n : BitVec 16, t = n.toNat := ⟨BitVec.ofNat 16 t.toNat, by rw [BitVec.toNat_ofNat]; omega⟩
  refine Spc.intro Try.func10 rfl (Nat.le_of_ble_eq_true rfl) fun w0 => ?_
  have hI := hIb w0
  repeat (first
    | refine Plan.move rfl rfl rfl rfl ?_
    | refine Plan.assign rfl rfl rfl rfl ?_
    | refine Plan.skip rfl rfl ?_
    | refine Plan.extract rfl rfl rfl rfl rfl ?_
    | refine Plan.pick rfl rfl rfl rfl rfl ?_
    | refine Plan.lenStr rfl rfl rfl rfl Try.underlying9 ?_
    | (refine Plan.ints rfl rfl rfl rfl rfl rfl ?_; (first | refine Plan.int (i64u8 _) ?_ | refine Plan.int (i64r (by omega)) ?_ | refine Plan.int (u64r (by omega)) ?_ | refine Plan.int (u8r (by omega)) ?_ | refine Plan.int (u16r (by omega)) ?_ | refine Plan.int (quoN (by omega)) ?_ | refine Plan.int (remN _ _) ?_ | refine Plan.int (u8N _) ?_ | skip))
    | refine Plan.un rfl rfl rfl rfl rfl ?_
    | refine Plan.lenB rfl rfl rfl rfl (by first | exact Sub.refl _ | exact Sub.own | exact Sub.old (fun _ h => h) | exact Sub.oldOwn (fun _ h => h) | exact Sub.nilRow | exact Sub.ownLower hB | exact Sub.nilOwn (fun _ h => Nat.le_trans hB h.size)) Try.underlying27 ?_
    | (refine Plan.convInt rfl rfl rfl rfl (by first | exact Try.underlying2 | exact Try.underlying3 | exact Try.underlying5 | exact Try.underlying21 | exact Try.underlying25 | exact Try.underlying33 | exact Try.underlying53 | exact Try.underlying89) (by first | exact Try.underlying2 | exact Try.underlying3 | exact Try.underlying5 | exact Try.underlying21 | exact Try.underlying25 | exact Try.underlying33 | exact Try.underlying53 | exact Try.underlying89) ?_; (first | refine Plan.int (i64u8 _) ?_ | refine Plan.int (i64r (by omega)) ?_ | refine Plan.int (u64r (by omega)) ?_ | refine Plan.int (u8r (by omega)) ?_ | refine Plan.int (u16r (by omega)) ?_ | refine Plan.int (quoN (by omega)) ?_ | refine Plan.int (remN _ _) ?_ | refine Plan.int (u8N _) ?_ | skip))
    | refine J.seq (J.region mixed hI (by kernel_rfl) ?_)
    | refine J.region mixed hI (by kernel_rfl) ?_
    | refine J.seq (J.seq (J.region mixed hI (by kernel_rfl) ?_))
    | refine J.condF rfl ?_
    | refine J.condT rfl ?_
    | refine J.skip ?_)
  refine Plan.call (B := w0.heap.size) rfl rfl rfl (awakeF) Try.func24 rfl rfl (hBb w0) (by repeat (first | exact Opnds.nil | refine Opnds.cons rfl (by first | exact Sub.refl _ | exact Sub.own | exact Sub.old (fun _ h => h) | exact Sub.oldOwn (fun _ h => h) | exact Sub.nilRow) ?_)) ?_
  repeat (first
    | refine Plan.move rfl rfl rfl rfl ?_
    | refine Plan.assign rfl rfl rfl rfl ?_
    | refine Plan.skip rfl rfl ?_
    | refine Plan.extract rfl rfl rfl rfl rfl ?_
    | refine Plan.pick rfl rfl rfl rfl rfl ?_
    | refine Plan.lenStr rfl rfl rfl rfl Try.underlying9 ?_
    | (refine Plan.ints rfl rfl rfl rfl rfl rfl ?_; (first | refine Plan.int (i64u8 _) ?_ | refine Plan.int (i64r (by omega)) ?_ | refine Plan.int (u64r (by omega)) ?_ | refine Plan.int (u8r (by omega)) ?_ | refine Plan.int (u16r (by omega)) ?_ | refine Plan.int (quoN (by omega)) ?_ | refine Plan.int (remN _ _) ?_ | refine Plan.int (u8N _) ?_ | skip))
    | refine Plan.un rfl rfl rfl rfl rfl ?_
    | refine Plan.lenB rfl rfl rfl rfl (by first | exact Sub.refl _ | exact Sub.own | exact Sub.old (fun _ h => h) | exact Sub.oldOwn (fun _ h => h) | exact Sub.nilRow | exact Sub.ownLower hB | exact Sub.nilOwn (fun _ h => Nat.le_trans hB h.size)) Try.underlying27 ?_
    | (refine Plan.convInt rfl rfl rfl rfl (by first | exact Try.underlying2 | exact Try.underlying3 | exact Try.underlying5 | exact Try.underlying21 | exact Try.underlying25 | exact Try.underlying33 | exact Try.underlying53 | exact Try.underlying89) (by first | exact Try.underlying2 | exact Try.underlying3 | exact Try.underlying5 | exact Try.underlying21 | exact Try.underlying25 | exact Try.underlying33 | exact Try.underlying53 | exact Try.underlying89) ?_; (first | refine Plan.int (i64u8 _) ?_ | refine Plan.int (i64r (by omega)) ?_ | refine Plan.int (u64r (by omega)) ?_ | refine Plan.int (u8r (by omega)) ?_ | refine Plan.int (u16r (by omega)) ?_ | refine Plan.int (quoN (by omega)) ?_ | refine Plan.int (remN _ _) ?_ | refine Plan.int (u8N _) ?_ | skip))
    | refine J.seq (J.region mixed hI (by kernel_rfl) ?_)
    | refine J.region mixed hI (by kernel_rfl) ?_
    | refine J.seq (J.seq (J.region mixed hI (by kernel_rfl) ?_))
    | refine J.condF rfl ?_
    | refine J.condT rfl ?_
    | refine J.skip ?_)
  cases ha : laidOk l with
  | false =>
    refine Plan.call (B := w0.heap.size) rfl rfl rfl (laid_no hll ha) Try.func32 rfl rfl (hBb w0) (by repeat (first | exact Opnds.nil | refine Opnds.cons rfl (by first | exact Sub.refl _ | exact Sub.own | exact Sub.old (fun _ h => h) | exact Sub.oldOwn (fun _ h => h) | exact Sub.nilRow) ?_)) ?_
    repeat (first
    | refine Plan.move rfl rfl rfl rfl ?_
    | refine Plan.assign rfl rfl rfl rfl ?_
    | refine Plan.skip rfl rfl ?_
    | refine Plan.extract rfl rfl rfl rfl rfl ?_
    | refine Plan.pick rfl rfl rfl rfl rfl ?_
    | refine Plan.lenStr rfl rfl rfl rfl Try.underlying9 ?_
    | (refine Plan.ints rfl rfl rfl rfl rfl rfl ?_; (first | refine Plan.int (i64u8 _) ?_ | refine Plan.int (i64r (by omega)) ?_ | refine Plan.int (u64r (by omega)) ?_ | refine Plan.int (u8r (by omega)) ?_ | refine Plan.int (u16r (by omega)) ?_ | refine Plan.int (quoN (by omega)) ?_ | refine Plan.int (remN _ _) ?_ | refine Plan.int (u8N _) ?_ | skip))
    | refine Plan.un rfl rfl rfl rfl rfl ?_
    | refine Plan.lenB rfl rfl rfl rfl (by first | exact Sub.refl _ | exact Sub.own | exact Sub.old (fun _ h => h) | exact Sub.oldOwn (fun _ h => h) | exact Sub.nilRow | exact Sub.ownLower hB | exact Sub.nilOwn (fun _ h => Nat.le_trans hB h.size)) Try.underlying27 ?_
    | (refine Plan.convInt rfl rfl rfl rfl (by first | exact Try.underlying2 | exact Try.underlying3 | exact Try.underlying5 | exact Try.underlying21 | exact Try.underlying25 | exact Try.underlying33 | exact Try.underlying53 | exact Try.underlying89) (by first | exact Try.underlying2 | exact Try.underlying3 | exact Try.underlying5 | exact Try.underlying21 | exact Try.underlying25 | exact Try.underlying33 | exact Try.underlying53 | exact Try.underlying89) ?_; (first | refine Plan.int (i64u8 _) ?_ | refine Plan.int (i64r (by omega)) ?_ | refine Plan.int (u64r (by omega)) ?_ | refine Plan.int (u8r (by omega)) ?_ | refine Plan.int (u16r (by omega)) ?_ | refine Plan.int (quoN (by omega)) ?_ | refine Plan.int (remN _ _) ?_ | refine Plan.int (u8N _) ?_ | skip))
    | refine J.seq (J.region mixed hI (by kernel_rfl) ?_)
    | refine J.region mixed hI (by kernel_rfl) ?_
    | refine J.seq (J.seq (J.region mixed hI (by kernel_rfl) ?_))
    | refine J.condF rfl ?_
    | refine J.condT rfl ?_
    | refine J.skip ?_)
    exact J.ret (Nrm.ret1 rfl (fun _ h => h) rfl fun B _ => Sub.refl _)
  | true =>
  have ha' := of_decide_eq_true ha
  have hfa := frames_le ha'.2
  have hsm : ∀ x ∈ l, x.length ≤ 65529 := fun x hx => by have := ha'.2 x hx; omega
  refine Plan.call (B := w0.heap.size) rfl rfl rfl (laid_yes hll ha) Try.func32 rfl rfl (hBb w0) (by repeat (first | exact Opnds.nil | refine Opnds.cons rfl (by first | exact Sub.refl _ | exact Sub.own | exact Sub.old (fun _ h => h) | exact Sub.oldOwn (fun _ h => h) | exact Sub.nilRow) ?_)) ?_
  repeat (first
    | refine Plan.move rfl rfl rfl rfl ?_
    | refine Plan.assign rfl rfl rfl rfl ?_
    | refine Plan.skip rfl rfl ?_
    | refine Plan.extract rfl rfl rfl rfl rfl ?_
    | refine Plan.pick rfl rfl rfl rfl rfl ?_
    | refine Plan.lenStr rfl rfl rfl rfl Try.underlying9 ?_
    | (refine Plan.ints rfl rfl rfl rfl rfl rfl ?_; (first | refine Plan.int (i64u8 _) ?_ | refine Plan.int (i64r (by omega)) ?_ | refine Plan.int (u64r (by omega)) ?_ | refine Plan.int (u8r (by omega)) ?_ | refine Plan.int (u16r (by omega)) ?_ | refine Plan.int (quoN (by omega)) ?_ | refine Plan.int (remN _ _) ?_ | refine Plan.int (u8N _) ?_ | skip))
    | refine Plan.un rfl rfl rfl rfl rfl ?_
    | refine Plan.lenB rfl rfl rfl rfl (by first | exact Sub.refl _ | exact Sub.own | exact Sub.old (fun _ h => h) | exact Sub.oldOwn (fun _ h => h) | exact Sub.nilRow | exact Sub.ownLower hB | exact Sub.nilOwn (fun _ h => Nat.le_trans hB h.size)) Try.underlying27 ?_
    | (refine Plan.convInt rfl rfl rfl rfl (by first | exact Try.underlying2 | exact Try.underlying3 | exact Try.underlying5 | exact Try.underlying21 | exact Try.underlying25 | exact Try.underlying33 | exact Try.underlying53 | exact Try.underlying89) (by first | exact Try.underlying2 | exact Try.underlying3 | exact Try.underlying5 | exact Try.underlying21 | exact Try.underlying25 | exact Try.underlying33 | exact Try.underlying53 | exact Try.underlying89) ?_; (first | refine Plan.int (i64u8 _) ?_ | refine Plan.int (i64r (by omega)) ?_ | refine Plan.int (u64r (by omega)) ?_ | refine Plan.int (u8r (by omega)) ?_ | refine Plan.int (u16r (by omega)) ?_ | refine Plan.int (quoN (by omega)) ?_ | refine Plan.int (remN _ _) ?_ | refine Plan.int (u8N _) ?_ | skip))
    | refine J.seq (J.region mixed hI (by kernel_rfl) ?_)
    | refine J.region mixed hI (by kernel_rfl) ?_
    | refine J.seq (J.seq (J.region mixed hI (by kernel_rfl) ?_))
    | refine J.condF rfl ?_
    | refine J.condT rfl ?_
    | refine J.skip ?_)
  refine Plan.splitD (fun h1 => ?_) (fun h1 => ?_)
  · repeat (first
    | refine Plan.move rfl rfl rfl rfl ?_
    | refine Plan.assign rfl rfl rfl rfl ?_
    | refine Plan.skip rfl rfl ?_
    | refine Plan.extract rfl rfl rfl rfl rfl ?_
    | refine Plan.pick rfl rfl rfl rfl rfl ?_
    | refine Plan.lenStr rfl rfl rfl rfl Try.underlying9 ?_
    | (refine Plan.ints rfl rfl rfl rfl rfl rfl ?_; (first | refine Plan.int (i64u8 _) ?_ | refine Plan.int (i64r (by omega)) ?_ | refine Plan.int (u64r (by omega)) ?_ | refine Plan.int (u8r (by omega)) ?_ | refine Plan.int (u16r (by omega)) ?_ | refine Plan.int (quoN (by omega)) ?_ | refine Plan.int (remN _ _) ?_ | refine Plan.int (u8N _) ?_ | skip))
    | refine Plan.un rfl rfl rfl rfl rfl ?_
    | refine Plan.lenB rfl rfl rfl rfl (by first | exact Sub.refl _ | exact Sub.own | exact Sub.old (fun _ h => h) | exact Sub.oldOwn (fun _ h => h) | exact Sub.nilRow | exact Sub.ownLower hB | exact Sub.nilOwn (fun _ h => Nat.le_trans hB h.size)) Try.underlying27 ?_
    | (refine Plan.convInt rfl rfl rfl rfl (by first | exact Try.underlying2 | exact Try.underlying3 | exact Try.underlying5 | exact Try.underlying21 | exact Try.underlying25 | exact Try.underlying33 | exact Try.underlying53 | exact Try.underlying89) (by first | exact Try.underlying2 | exact Try.underlying3 | exact Try.underlying5 | exact Try.underlying21 | exact Try.underlying25 | exact Try.underlying33 | exact Try.underlying53 | exact Try.underlying89) ?_; (first | refine Plan.int (i64u8 _) ?_ | refine Plan.int (i64r (by omega)) ?_ | refine Plan.int (u64r (by omega)) ?_ | refine Plan.int (u8r (by omega)) ?_ | refine Plan.int (u16r (by omega)) ?_ | refine Plan.int (quoN (by omega)) ?_ | refine Plan.int (remN _ _) ?_ | refine Plan.int (u8N _) ?_ | skip))
    | refine J.seq (J.region mixed hI (by kernel_rfl) ?_)
    | refine J.region mixed hI (by kernel_rfl) ?_
    | refine J.seq (J.seq (J.region mixed hI (by kernel_rfl) ?_))
    | refine J.condF rfl ?_
    | refine J.condT rfl ?_
    | refine J.skip ?_)
    exact J.ret (Nrm.ret1 rfl (fun _ h => h) rfl fun B _ => Sub.refl _)
  repeat (first
    | refine Plan.move rfl rfl rfl rfl ?_
    | refine Plan.assign rfl rfl rfl rfl ?_
    | refine Plan.skip rfl rfl ?_
    | refine Plan.extract rfl rfl rfl rfl rfl ?_
    | refine Plan.pick rfl rfl rfl rfl rfl ?_
    | refine Plan.lenStr rfl rfl rfl rfl Try.underlying9 ?_
    | (refine Plan.ints rfl rfl rfl rfl rfl rfl ?_; (first | refine Plan.int (i64u8 _) ?_ | refine Plan.int (i64r (by omega)) ?_ | refine Plan.int (u64r (by omega)) ?_ | refine Plan.int (u8r (by omega)) ?_ | refine Plan.int (u16r (by omega)) ?_ | refine Plan.int (quoN (by omega)) ?_ | refine Plan.int (remN _ _) ?_ | refine Plan.int (u8N _) ?_ | skip))
    | refine Plan.un rfl rfl rfl rfl rfl ?_
    | refine Plan.lenB rfl rfl rfl rfl (by first | exact Sub.refl _ | exact Sub.own | exact Sub.old (fun _ h => h) | exact Sub.oldOwn (fun _ h => h) | exact Sub.nilRow | exact Sub.ownLower hB | exact Sub.nilOwn (fun _ h => Nat.le_trans hB h.size)) Try.underlying27 ?_
    | (refine Plan.convInt rfl rfl rfl rfl (by first | exact Try.underlying2 | exact Try.underlying3 | exact Try.underlying5 | exact Try.underlying21 | exact Try.underlying25 | exact Try.underlying33 | exact Try.underlying53 | exact Try.underlying89) (by first | exact Try.underlying2 | exact Try.underlying3 | exact Try.underlying5 | exact Try.underlying21 | exact Try.underlying25 | exact Try.underlying33 | exact Try.underlying53 | exact Try.underlying89) ?_; (first | refine Plan.int (i64u8 _) ?_ | refine Plan.int (i64r (by omega)) ?_ | refine Plan.int (u64r (by omega)) ?_ | refine Plan.int (u8r (by omega)) ?_ | refine Plan.int (u16r (by omega)) ?_ | refine Plan.int (quoN (by omega)) ?_ | refine Plan.int (remN _ _) ?_ | refine Plan.int (u8N _) ?_ | skip))
    | refine J.seq (J.region mixed hI (by kernel_rfl) ?_)
    | refine J.region mixed hI (by kernel_rfl) ?_
    | refine J.seq (J.seq (J.region mixed hI (by kernel_rfl) ?_))
    | refine J.condF rfl ?_
    | refine J.condT rfl ?_
    | refine J.skip ?_)
  refine J.condE rfl (fun h2 => ?_) (fun h2 => ?_)
  · repeat (first
    | refine Plan.move rfl rfl rfl rfl ?_
    | refine Plan.assign rfl rfl rfl rfl ?_
    | refine Plan.skip rfl rfl ?_
    | refine Plan.extract rfl rfl rfl rfl rfl ?_
    | refine Plan.pick rfl rfl rfl rfl rfl ?_
    | refine Plan.lenStr rfl rfl rfl rfl Try.underlying9 ?_
    | (refine Plan.ints rfl rfl rfl rfl rfl rfl ?_; (first | refine Plan.int (i64u8 _) ?_ | refine Plan.int (i64r (by omega)) ?_ | refine Plan.int (u64r (by omega)) ?_ | refine Plan.int (u8r (by omega)) ?_ | refine Plan.int (u16r (by omega)) ?_ | refine Plan.int (quoN (by omega)) ?_ | refine Plan.int (remN _ _) ?_ | refine Plan.int (u8N _) ?_ | skip))
    | refine Plan.un rfl rfl rfl rfl rfl ?_
    | refine Plan.lenB rfl rfl rfl rfl (by first | exact Sub.refl _ | exact Sub.own | exact Sub.old (fun _ h => h) | exact Sub.oldOwn (fun _ h => h) | exact Sub.nilRow | exact Sub.ownLower hB | exact Sub.nilOwn (fun _ h => Nat.le_trans hB h.size)) Try.underlying27 ?_
    | (refine Plan.convInt rfl rfl rfl rfl (by first | exact Try.underlying2 | exact Try.underlying3 | exact Try.underlying5 | exact Try.underlying21 | exact Try.underlying25 | exact Try.underlying33 | exact Try.underlying53 | exact Try.underlying89) (by first | exact Try.underlying2 | exact Try.underlying3 | exact Try.underlying5 | exact Try.underlying21 | exact Try.underlying25 | exact Try.underlying33 | exact Try.underlying53 | exact Try.underlying89) ?_; (first | refine Plan.int (i64u8 _) ?_ | refine Plan.int (i64r (by omega)) ?_ | refine Plan.int (u64r (by omega)) ?_ | refine Plan.int (u8r (by omega)) ?_ | refine Plan.int (u16r (by omega)) ?_ | refine Plan.int (quoN (by omega)) ?_ | refine Plan.int (remN _ _) ?_ | refine Plan.int (u8N _) ?_ | skip))
    | refine J.seq (J.region mixed hI (by kernel_rfl) ?_)
    | refine J.region mixed hI (by kernel_rfl) ?_
    | refine J.seq (J.seq (J.region mixed hI (by kernel_rfl) ?_))
    | refine J.condF rfl ?_
    | refine J.condT rfl ?_
    | refine J.skip ?_)
    exact J.ret (Nrm.ret1 rfl (fun _ h => h) rfl fun B _ => Sub.refl _)
  repeat (first
    | refine Plan.move rfl rfl rfl rfl ?_
    | refine Plan.assign rfl rfl rfl rfl ?_
    | refine Plan.skip rfl rfl ?_
    | refine Plan.extract rfl rfl rfl rfl rfl ?_
    | refine Plan.pick rfl rfl rfl rfl rfl ?_
    | refine Plan.lenStr rfl rfl rfl rfl Try.underlying9 ?_
    | (refine Plan.ints rfl rfl rfl rfl rfl rfl ?_; (first | refine Plan.int (i64u8 _) ?_ | refine Plan.int (i64r (by omega)) ?_ | refine Plan.int (u64r (by omega)) ?_ | refine Plan.int (u8r (by omega)) ?_ | refine Plan.int (u16r (by omega)) ?_ | refine Plan.int (quoN (by omega)) ?_ | refine Plan.int (remN _ _) ?_ | refine Plan.int (u8N _) ?_ | skip))
    | refine Plan.un rfl rfl rfl rfl rfl ?_
    | refine Plan.lenB rfl rfl rfl rfl (by first | exact Sub.refl _ | exact Sub.own | exact Sub.old (fun _ h => h) | exact Sub.oldOwn (fun _ h => h) | exact Sub.nilRow | exact Sub.ownLower hB | exact Sub.nilOwn (fun _ h => Nat.le_trans hB h.size)) Try.underlying27 ?_
    | (refine Plan.convInt rfl rfl rfl rfl (by first | exact Try.underlying2 | exact Try.underlying3 | exact Try.underlying5 | exact Try.underlying21 | exact Try.underlying25 | exact Try.underlying33 | exact Try.underlying53 | exact Try.underlying89) (by first | exact Try.underlying2 | exact Try.underlying3 | exact Try.underlying5 | exact Try.underlying21 | exact Try.underlying25 | exact Try.underlying33 | exact Try.underlying53 | exact Try.underlying89) ?_; (first | refine Plan.int (i64u8 _) ?_ | refine Plan.int (i64r (by omega)) ?_ | refine Plan.int (u64r (by omega)) ?_ | refine Plan.int (u8r (by omega)) ?_ | refine Plan.int (u16r (by omega)) ?_ | refine Plan.int (quoN (by omega)) ?_ | refine Plan.int (remN _ _) ?_ | refine Plan.int (u8N _) ?_ | skip))
    | refine J.seq (J.region mixed hI (by kernel_rfl) ?_)
    | refine J.region mixed hI (by kernel_rfl) ?_
    | refine J.seq (J.seq (J.region mixed hI (by kernel_rfl) ?_))
    | refine J.condF rfl ?_
    | refine J.condT rfl ?_
    | refine J.skip ?_)
  refine Plan.int (y := ((8 * (frames l).length - 15 : Nat) : Int)) (by omega) ?_
  refine Plan.remI rfl rfl rfl rfl rfl (by omega) ?_
  obtain ⟨k, hk⟩ : ∃ k, k = c % (8 * (frames l).length - 15) := ⟨_, rfl⟩
  have hkl : k < 8 * (frames l).length - 15 := by rw [hk]; exact Nat.mod_lt _ (by omega)
  rw [← hk]
  repeat (first
    | refine Plan.move rfl rfl rfl rfl ?_
    | refine Plan.assign rfl rfl rfl rfl ?_
    | refine Plan.skip rfl rfl ?_
    | refine Plan.extract rfl rfl rfl rfl rfl ?_
    | refine Plan.pick rfl rfl rfl rfl rfl ?_
    | refine Plan.lenStr rfl rfl rfl rfl Try.underlying9 ?_
    | (refine Plan.ints rfl rfl rfl rfl rfl rfl ?_; (first | refine Plan.int (i64u8 _) ?_ | refine Plan.int (i64r (by omega)) ?_ | refine Plan.int (u64r (by omega)) ?_ | refine Plan.int (u8r (by omega)) ?_ | refine Plan.int (u16r (by omega)) ?_ | refine Plan.int (quoN (by omega)) ?_ | refine Plan.int (remN _ _) ?_ | refine Plan.int (u8N _) ?_ | skip))
    | refine Plan.un rfl rfl rfl rfl rfl ?_
    | refine Plan.lenB rfl rfl rfl rfl (by first | exact Sub.refl _ | exact Sub.own | exact Sub.old (fun _ h => h) | exact Sub.oldOwn (fun _ h => h) | exact Sub.nilRow | exact Sub.ownLower hB | exact Sub.nilOwn (fun _ h => Nat.le_trans hB h.size)) Try.underlying27 ?_
    | (refine Plan.convInt rfl rfl rfl rfl (by first | exact Try.underlying2 | exact Try.underlying3 | exact Try.underlying5 | exact Try.underlying21 | exact Try.underlying25 | exact Try.underlying33 | exact Try.underlying53 | exact Try.underlying89) (by first | exact Try.underlying2 | exact Try.underlying3 | exact Try.underlying5 | exact Try.underlying21 | exact Try.underlying25 | exact Try.underlying33 | exact Try.underlying53 | exact Try.underlying89) ?_; (first | refine Plan.int (i64u8 _) ?_ | refine Plan.int (i64r (by omega)) ?_ | refine Plan.int (u64r (by omega)) ?_ | refine Plan.int (u8r (by omega)) ?_ | refine Plan.int (u16r (by omega)) ?_ | refine Plan.int (quoN (by omega)) ?_ | refine Plan.int (remN _ _) ?_ | refine Plan.int (u8N _) ?_ | skip))
    | refine J.seq (J.region mixed hI (by kernel_rfl) ?_)
    | refine J.region mixed hI (by kernel_rfl) ?_
    | refine J.seq (J.seq (J.region mixed hI (by kernel_rfl) ?_))
    | refine J.condF rfl ?_
    | refine J.condT rfl ?_
    | refine J.skip ?_)
  refine J.block (J.loop (ftE w0 l t k) (fun s => s.1 ≤ 16 ∧ firstIs t k s.1 s.2) (fun s => 16 - s.1) (0, -1) ⟨Nat.zero_le _, first_0 t k⟩ ?_ ?_)
  · repeat (first | exact Weak.nil | refine Weak.cons rfl (Sub.refl _) ?_)
  rintro ⟨i, f⟩ ⟨hi, hf⟩
  dsimp only at hi hf
  repeat (first
    | refine Plan.move rfl rfl rfl rfl ?_
    | refine Plan.assign rfl rfl rfl rfl ?_
    | refine Plan.skip rfl rfl ?_
    | refine Plan.extract rfl rfl rfl rfl rfl ?_
    | refine Plan.pick rfl rfl rfl rfl rfl ?_
    | refine Plan.lenStr rfl rfl rfl rfl Try.underlying9 ?_
    | (refine Plan.ints rfl rfl rfl rfl rfl rfl ?_; (first | refine Plan.int (i64u8 _) ?_ | refine Plan.int (i64r (by omega)) ?_ | refine Plan.int (u64r (by omega)) ?_ | refine Plan.int (u8r (by omega)) ?_ | refine Plan.int (u16r (by omega)) ?_ | refine Plan.int (quoN (by omega)) ?_ | refine Plan.int (remN _ _) ?_ | refine Plan.int (u8N _) ?_ | skip))
    | refine Plan.un rfl rfl rfl rfl rfl ?_
    | refine Plan.lenB rfl rfl rfl rfl (by first | exact Sub.refl _ | exact Sub.own | exact Sub.old (fun _ h => h) | exact Sub.oldOwn (fun _ h => h) | exact Sub.nilRow | exact Sub.ownLower hB | exact Sub.nilOwn (fun _ h => Nat.le_trans hB h.size)) Try.underlying27 ?_
    | (refine Plan.convInt rfl rfl rfl rfl (by first | exact Try.underlying2 | exact Try.underlying3 | exact Try.underlying5 | exact Try.underlying21 | exact Try.underlying25 | exact Try.underlying33 | exact Try.underlying53 | exact Try.underlying89) (by first | exact Try.underlying2 | exact Try.underlying3 | exact Try.underlying5 | exact Try.underlying21 | exact Try.underlying25 | exact Try.underlying33 | exact Try.underlying53 | exact Try.underlying89) ?_; (first | refine Plan.int (i64u8 _) ?_ | refine Plan.int (i64r (by omega)) ?_ | refine Plan.int (u64r (by omega)) ?_ | refine Plan.int (u8r (by omega)) ?_ | refine Plan.int (u16r (by omega)) ?_ | refine Plan.int (quoN (by omega)) ?_ | refine Plan.int (remN _ _) ?_ | refine Plan.int (u8N _) ?_ | skip))
    | refine J.seq (J.region mixed hI (by kernel_rfl) ?_)
    | refine J.region mixed hI (by kernel_rfl) ?_
    | refine J.seq (J.seq (J.region mixed hI (by kernel_rfl) ?_))
    | refine J.condF rfl ?_
    | refine J.condT rfl ?_
    | refine J.skip ?_)
  refine J.condD rfl (fun hlt => ?_) (fun hlt => ?_)
  · have hlt' : i < 16 := by
      dsimp only at hlt; omega
    have ht16 := t.isLt
    have hql : (burst (frames l) k (selT t) i).length = (frames l).length := burst_length _ _ _ _
    repeat (first
    | refine Plan.move rfl rfl rfl rfl ?_
    | refine Plan.assign rfl rfl rfl rfl ?_
    | refine Plan.skip rfl rfl ?_
    | refine Plan.extract rfl rfl rfl rfl rfl ?_
    | refine Plan.pick rfl rfl rfl rfl rfl ?_
    | refine Plan.lenStr rfl rfl rfl rfl Try.underlying9 ?_
    | (refine Plan.ints rfl rfl rfl rfl rfl rfl ?_; (first | refine Plan.int (i64u8 _) ?_ | refine Plan.int (i64r (by omega)) ?_ | refine Plan.int (u64r (by omega)) ?_ | refine Plan.int (u8r (by omega)) ?_ | refine Plan.int (u16r (by omega)) ?_ | refine Plan.int (quoN (by omega)) ?_ | refine Plan.int (remN _ _) ?_ | refine Plan.int (u8N _) ?_ | skip))
    | refine Plan.un rfl rfl rfl rfl rfl ?_
    | refine Plan.lenB rfl rfl rfl rfl (by first | exact Sub.refl _ | exact Sub.own | exact Sub.old (fun _ h => h) | exact Sub.oldOwn (fun _ h => h) | exact Sub.nilRow | exact Sub.ownLower hB | exact Sub.nilOwn (fun _ h => Nat.le_trans hB h.size)) Try.underlying27 ?_
    | (refine Plan.convInt rfl rfl rfl rfl (by first | exact Try.underlying2 | exact Try.underlying3 | exact Try.underlying5 | exact Try.underlying21 | exact Try.underlying25 | exact Try.underlying33 | exact Try.underlying53 | exact Try.underlying89) (by first | exact Try.underlying2 | exact Try.underlying3 | exact Try.underlying5 | exact Try.underlying21 | exact Try.underlying25 | exact Try.underlying33 | exact Try.underlying53 | exact Try.underlying89) ?_; (first | refine Plan.int (i64u8 _) ?_ | refine Plan.int (i64r (by omega)) ?_ | refine Plan.int (u64r (by omega)) ?_ | refine Plan.int (u8r (by omega)) ?_ | refine Plan.int (u16r (by omega)) ?_ | refine Plan.int (quoN (by omega)) ?_ | refine Plan.int (remN _ _) ?_ | refine Plan.int (u8N _) ?_ | skip))
    | refine J.seq (J.region mixed hI (by kernel_rfl) ?_)
    | refine J.region mixed hI (by kernel_rfl) ?_
    | refine J.seq (J.seq (J.region mixed hI (by kernel_rfl) ?_))
    | refine J.condF rfl ?_
    | refine J.condT rfl ?_
    | refine J.skip ?_)
    refine J.seq (J.block ?_)
    repeat (first
    | refine Plan.move rfl rfl rfl rfl ?_
    | refine Plan.assign rfl rfl rfl rfl ?_
    | refine Plan.skip rfl rfl ?_
    | refine Plan.extract rfl rfl rfl rfl rfl ?_
    | refine Plan.pick rfl rfl rfl rfl rfl ?_
    | refine Plan.lenStr rfl rfl rfl rfl Try.underlying9 ?_
    | (refine Plan.ints rfl rfl rfl rfl rfl rfl ?_; (first | refine Plan.int (i64u8 _) ?_ | refine Plan.int (i64r (by omega)) ?_ | refine Plan.int (u64r (by omega)) ?_ | refine Plan.int (u8r (by omega)) ?_ | refine Plan.int (u16r (by omega)) ?_ | refine Plan.int (quoN (by omega)) ?_ | refine Plan.int (remN _ _) ?_ | refine Plan.int (u8N _) ?_ | skip))
    | refine Plan.un rfl rfl rfl rfl rfl ?_
    | refine Plan.lenB rfl rfl rfl rfl (by first | exact Sub.refl _ | exact Sub.own | exact Sub.old (fun _ h => h) | exact Sub.oldOwn (fun _ h => h) | exact Sub.nilRow | exact Sub.ownLower hB | exact Sub.nilOwn (fun _ h => Nat.le_trans hB h.size)) Try.underlying27 ?_
    | (refine Plan.convInt rfl rfl rfl rfl (by first | exact Try.underlying2 | exact Try.underlying3 | exact Try.underlying5 | exact Try.underlying21 | exact Try.underlying25 | exact Try.underlying33 | exact Try.underlying53 | exact Try.underlying89) (by first | exact Try.underlying2 | exact Try.underlying3 | exact Try.underlying5 | exact Try.underlying21 | exact Try.underlying25 | exact Try.underlying33 | exact Try.underlying53 | exact Try.underlying89) ?_; (first | refine Plan.int (i64u8 _) ?_ | refine Plan.int (i64r (by omega)) ?_ | refine Plan.int (u64r (by omega)) ?_ | refine Plan.int (u8r (by omega)) ?_ | refine Plan.int (u16r (by omega)) ?_ | refine Plan.int (quoN (by omega)) ?_ | refine Plan.int (remN _ _) ?_ | refine Plan.int (u8N _) ?_ | skip))
    | refine J.seq (J.region mixed hI (by kernel_rfl) ?_)
    | refine J.region mixed hI (by kernel_rfl) ?_
    | refine J.seq (J.seq (J.region mixed hI (by kernel_rfl) ?_))
    | refine J.condF rfl ?_
    | refine J.condT rfl ?_
    | refine J.skip ?_)
    refine Plan.int (y := ((15 - i : Nat) : Int)) (by dsimp only; omega) ?_
    refine Plan.shrN rfl rfl rfl rfl rfl (by show 15 - i ≤ 16; omega) ?_
    refine Plan.ints rfl rfl rfl rfl rfl rfl ?_
    refine Plan.int (and1 _ (Nat.lt_of_le_of_lt (Nat.div_le_self _ _) ht16)) ?_
    repeat (first
    | refine Plan.move rfl rfl rfl rfl ?_
    | refine Plan.assign rfl rfl rfl rfl ?_
    | refine Plan.skip rfl rfl ?_
    | refine Plan.extract rfl rfl rfl rfl rfl ?_
    | refine Plan.pick rfl rfl rfl rfl rfl ?_
    | refine Plan.lenStr rfl rfl rfl rfl Try.underlying9 ?_
    | (refine Plan.ints rfl rfl rfl rfl rfl rfl ?_; (first | refine Plan.int (i64u8 _) ?_ | refine Plan.int (i64r (by omega)) ?_ | refine Plan.int (u64r (by omega)) ?_ | refine Plan.int (u8r (by omega)) ?_ | refine Plan.int (u16r (by omega)) ?_ | refine Plan.int (quoN (by omega)) ?_ | refine Plan.int (remN _ _) ?_ | refine Plan.int (u8N _) ?_ | skip))
    | refine Plan.un rfl rfl rfl rfl rfl ?_
    | refine Plan.lenB rfl rfl rfl rfl (by first | exact Sub.refl _ | exact Sub.own | exact Sub.old (fun _ h => h) | exact Sub.oldOwn (fun _ h => h) | exact Sub.nilRow | exact Sub.ownLower hB | exact Sub.nilOwn (fun _ h => Nat.le_trans hB h.size)) Try.underlying27 ?_
    | (refine Plan.convInt rfl rfl rfl rfl (by first | exact Try.underlying2 | exact Try.underlying3 | exact Try.underlying5 | exact Try.underlying21 | exact Try.underlying25 | exact Try.underlying33 | exact Try.underlying53 | exact Try.underlying89) (by first | exact Try.underlying2 | exact Try.underlying3 | exact Try.underlying5 | exact Try.underlying21 | exact Try.underlying25 | exact Try.underlying33 | exact Try.underlying53 | exact Try.underlying89) ?_; (first | refine Plan.int (i64u8 _) ?_ | refine Plan.int (i64r (by omega)) ?_ | refine Plan.int (u64r (by omega)) ?_ | refine Plan.int (u8r (by omega)) ?_ | refine Plan.int (u16r (by omega)) ?_ | refine Plan.int (quoN (by omega)) ?_ | refine Plan.int (remN _ _) ?_ | refine Plan.int (u8N _) ?_ | skip))
    | refine J.seq (J.region mixed hI (by kernel_rfl) ?_)
    | refine J.region mixed hI (by kernel_rfl) ?_
    | refine J.seq (J.seq (J.region mixed hI (by kernel_rfl) ?_))
    | refine J.condF rfl ?_
    | refine J.condT rfl ?_
    | refine J.skip ?_)
    refine J.condE rfl (fun hbit => ?_) (fun hbit => ?_)
    · have hb1 : selT t i = true := by show t.getLsbD (15 - i) = true; rw [bit_test]; exact decide_eq_true (by omega)
      refine J.openOwn (t := 7) (key := 200) (m := (frames l).length) rfl (Sub.refl _) (by rw [bs_length]; dsimp only; omega) (by decide) (by omega) fun g cap hg => ?_
      obtain ⟨inf, hinf, _, hsz1, _⟩ := eltB.hi
      refine J.seq (J.region mixed hI (by kernel_rfl) ?_)
      refine Plan.move rfl rfl rfl rfl ?_
      refine Plan.move rfl rfl rfl rfl ?_
      refine Plan.move rfl rfl rfl rfl ?_
      refine Plan.ints rfl rfl rfl rfl rfl rfl ?_
      refine Plan.int (y := ((k + i : Nat) : Int)) (by dsimp only; rw [i64r (by omega)]; omega) ?_
      refine Plan.ints rfl rfl rfl rfl rfl rfl ?_
      refine Plan.int (y := (((k + i) / 8 : Nat) : Int)) (quoN (y := 8) (by omega)) ?_
      refine Plan.indexEx (q := (k + i) / 8) rfl rfl rfl rfl rfl eltB (by omega) (by omega) (by omega) ?_
      have hq8 : (k + i) / 8 < (burst (frames l) k (selT t) i).length := by omega
      refine Plan.loadRes (key := 200) (q := (k + i) / 8) (v := .int .u8 ((burst (frames l) k (selT t) i).getD ((k + i) / 8) 0).toNat) rfl rfl rfl rfl rfl rfl (by dsimp only [bs]; rw [List.getElem?_map, List.getElem?_eq_getElem hq8, List.getD_eq_getElem?_getD, List.getElem?_eq_getElem hq8]; rfl) Try.underlying5 rfl (by intro d hd; cases hd; decide) ?_
      refine Plan.move rfl rfl rfl rfl ?_
      refine Plan.move rfl rfl rfl rfl ?_
      refine Plan.ints rfl rfl rfl rfl rfl rfl ?_
      refine Plan.int (y := ((k + i : Nat) : Int)) (by dsimp only; rw [i64r (by omega)]; omega) ?_
      refine Plan.ints rfl rfl rfl rfl rfl rfl ?_
      refine Plan.int (y := (((k + i) % 8 : Nat) : Int)) (remN _ 8) ?_
      refine Plan.convInt rfl rfl rfl rfl (by first | exact Try.underlying2 | exact Try.underlying3 | exact Try.underlying5 | exact Try.underlying21 | exact Try.underlying25 | exact Try.underlying33 | exact Try.underlying53 | exact Try.underlying89) (by first | exact Try.underlying2 | exact Try.underlying3 | exact Try.underlying5 | exact Try.underlying21 | exact Try.underlying25 | exact Try.underlying33 | exact Try.underlying53 | exact Try.underlying89) ?_
      refine Plan.int (u64r (by omega)) ?_
      refine Plan.shrN (p := 128) (q := (k + i) % 8) rfl rfl rfl rfl rfl (by show (k + i) % 8 ≤ 8; omega) ?_
      refine Plan.int (bit_nat (k + i)) ?_
      refine Plan.ints rfl rfl rfl rfl rfl rfl ?_
      refine Plan.int (u8_xor _ _) ?_
      refine Plan.indexEx (q := (k + i) / 8) rfl rfl rfl rfl rfl eltB (by omega) (by omega) (by omega) ?_
      refine Plan.storeRes (key := 200) rfl rfl rfl rfl rfl rfl rfl rfl hinf hsz1 rfl (by rw [bs_length]; exact hq8) (by decide) (hGb w0) ?_
      rw [bsSet]
      have hfy := first_yes hf hb1
      have hbs : (burst (frames l) k (selT t) i).set ((k + i) / 8) ((burst (frames l) k (selT t) i).getD ((k + i) / 8) 0 ^^^ bitAt (k + i)) = burst (frames l) k (selT t) (i + 1) := by
        conv => rhs; unfold burst
        rw [if_pos hb1]; rfl
      rw [hbs]
      repeat (first
    | refine Plan.move rfl rfl rfl rfl ?_
    | refine Plan.assign rfl rfl rfl rfl ?_
    | refine Plan.skip rfl rfl ?_
    | refine Plan.extract rfl rfl rfl rfl rfl ?_
    | refine Plan.pick rfl rfl rfl rfl rfl ?_
    | refine Plan.lenStr rfl rfl rfl rfl Try.underlying9 ?_
    | (refine Plan.ints rfl rfl rfl rfl rfl rfl ?_; (first | refine Plan.int (i64u8 _) ?_ | refine Plan.int (i64r (by omega)) ?_ | refine Plan.int (u64r (by omega)) ?_ | refine Plan.int (u8r (by omega)) ?_ | refine Plan.int (u16r (by omega)) ?_ | refine Plan.int (quoN (by omega)) ?_ | refine Plan.int (remN _ _) ?_ | refine Plan.int (u8N _) ?_ | skip))
    | refine Plan.un rfl rfl rfl rfl rfl ?_
    | refine Plan.lenB rfl rfl rfl rfl (by first | exact Sub.refl _ | exact Sub.own | exact Sub.old (fun _ h => h) | exact Sub.oldOwn (fun _ h => h) | exact Sub.nilRow | exact Sub.ownLower hB | exact Sub.nilOwn (fun _ h => Nat.le_trans hB h.size)) Try.underlying27 ?_
    | (refine Plan.convInt rfl rfl rfl rfl (by first | exact Try.underlying2 | exact Try.underlying3 | exact Try.underlying5 | exact Try.underlying21 | exact Try.underlying25 | exact Try.underlying33 | exact Try.underlying53 | exact Try.underlying89) (by first | exact Try.underlying2 | exact Try.underlying3 | exact Try.underlying5 | exact Try.underlying21 | exact Try.underlying25 | exact Try.underlying33 | exact Try.underlying53 | exact Try.underlying89) ?_; (first | refine Plan.int (i64u8 _) ?_ | refine Plan.int (i64r (by omega)) ?_ | refine Plan.int (u64r (by omega)) ?_ | refine Plan.int (u8r (by omega)) ?_ | refine Plan.int (u16r (by omega)) ?_ | refine Plan.int (quoN (by omega)) ?_ | refine Plan.int (remN _ _) ?_ | refine Plan.int (u8N _) ?_ | skip))
    | refine J.seq (J.region mixed hI (by kernel_rfl) ?_)
    | refine J.region mixed hI (by kernel_rfl) ?_
    | refine J.seq (J.seq (J.region mixed hI (by kernel_rfl) ?_))
    | refine J.condF rfl ?_
    | refine J.condT rfl ?_
    | refine J.skip ?_)
      refine J.condD rfl (fun hf0 => ?_) (fun hf0 => ?_)
      · dsimp only at hf0
        rw [if_pos hf0] at hfy
        refine (J.region mixed hI (by kernel_rfl) ?_)
        refine Plan.move rfl rfl rfl rfl ?_
        refine Plan.move rfl rfl rfl rfl ?_
        refine Plan.ints rfl rfl rfl rfl rfl rfl ?_
        refine Plan.int (y := ((k + i : Nat) : Int)) (by dsimp only; rw [i64r (by omega)]; omega) ?_
        refine Plan.ints rfl rfl rfl rfl rfl rfl ?_
        refine Plan.int (y := (((k + i) / 8 : Nat) : Int)) (quoN (y := 8) (by omega)) ?_
        repeat (first
    | refine Plan.move rfl rfl rfl rfl ?_
    | refine Plan.assign rfl rfl rfl rfl ?_
    | refine Plan.skip rfl rfl ?_
    | refine Plan.extract rfl rfl rfl rfl rfl ?_
    | refine Plan.pick rfl rfl rfl rfl rfl ?_
    | refine Plan.lenStr rfl rfl rfl rfl Try.underlying9 ?_
    | (refine Plan.ints rfl rfl rfl rfl rfl rfl ?_; (first | refine Plan.int (i64u8 _) ?_ | refine Plan.int (i64r (by omega)) ?_ | refine Plan.int (u64r (by omega)) ?_ | refine Plan.int (u8r (by omega)) ?_ | refine Plan.int (u16r (by omega)) ?_ | refine Plan.int (quoN (by omega)) ?_ | refine Plan.int (remN _ _) ?_ | refine Plan.int (u8N _) ?_ | skip))
    | refine Plan.un rfl rfl rfl rfl rfl ?_
    | refine Plan.lenB rfl rfl rfl rfl (by first | exact Sub.refl _ | exact Sub.own | exact Sub.old (fun _ h => h) | exact Sub.oldOwn (fun _ h => h) | exact Sub.nilRow | exact Sub.ownLower hB | exact Sub.nilOwn (fun _ h => Nat.le_trans hB h.size)) Try.underlying27 ?_
    | (refine Plan.convInt rfl rfl rfl rfl (by first | exact Try.underlying2 | exact Try.underlying3 | exact Try.underlying5 | exact Try.underlying21 | exact Try.underlying25 | exact Try.underlying33 | exact Try.underlying53 | exact Try.underlying89) (by first | exact Try.underlying2 | exact Try.underlying3 | exact Try.underlying5 | exact Try.underlying21 | exact Try.underlying25 | exact Try.underlying33 | exact Try.underlying53 | exact Try.underlying89) ?_; (first | refine Plan.int (i64u8 _) ?_ | refine Plan.int (i64r (by omega)) ?_ | refine Plan.int (u64r (by omega)) ?_ | refine Plan.int (u8r (by omega)) ?_ | refine Plan.int (u16r (by omega)) ?_ | refine Plan.int (quoN (by omega)) ?_ | refine Plan.int (remN _ _) ?_ | refine Plan.int (u8N _) ?_ | skip))
    | refine J.seq (J.region mixed hI (by kernel_rfl) ?_)
    | refine J.region mixed hI (by kernel_rfl) ?_
    | refine J.seq (J.seq (J.region mixed hI (by kernel_rfl) ?_))
    | refine J.condF rfl ?_
    | refine J.condT rfl ?_
    | refine J.skip ?_)
        refine Plan.int (y := ((i + 1 : Nat) : Int)) (by dsimp only; omega) ?_
        repeat (first
    | refine Plan.move rfl rfl rfl rfl ?_
    | refine Plan.assign rfl rfl rfl rfl ?_
    | refine Plan.skip rfl rfl ?_
    | refine Plan.extract rfl rfl rfl rfl rfl ?_
    | refine Plan.pick rfl rfl rfl rfl rfl ?_
    | refine Plan.lenStr rfl rfl rfl rfl Try.underlying9 ?_
    | (refine Plan.ints rfl rfl rfl rfl rfl rfl ?_; (first | refine Plan.int (i64u8 _) ?_ | refine Plan.int (i64r (by omega)) ?_ | refine Plan.int (u64r (by omega)) ?_ | refine Plan.int (u8r (by omega)) ?_ | refine Plan.int (u16r (by omega)) ?_ | refine Plan.int (quoN (by omega)) ?_ | refine Plan.int (remN _ _) ?_ | refine Plan.int (u8N _) ?_ | skip))
    | refine Plan.un rfl rfl rfl rfl rfl ?_
    | refine Plan.lenB rfl rfl rfl rfl (by first | exact Sub.refl _ | exact Sub.own | exact Sub.old (fun _ h => h) | exact Sub.oldOwn (fun _ h => h) | exact Sub.nilRow | exact Sub.ownLower hB | exact Sub.nilOwn (fun _ h => Nat.le_trans hB h.size)) Try.underlying27 ?_
    | (refine Plan.convInt rfl rfl rfl rfl (by first | exact Try.underlying2 | exact Try.underlying3 | exact Try.underlying5 | exact Try.underlying21 | exact Try.underlying25 | exact Try.underlying33 | exact Try.underlying53 | exact Try.underlying89) (by first | exact Try.underlying2 | exact Try.underlying3 | exact Try.underlying5 | exact Try.underlying21 | exact Try.underlying25 | exact Try.underlying33 | exact Try.underlying53 | exact Try.underlying89) ?_; (first | refine Plan.int (i64u8 _) ?_ | refine Plan.int (i64r (by omega)) ?_ | refine Plan.int (u64r (by omega)) ?_ | refine Plan.int (u8r (by omega)) ?_ | refine Plan.int (u16r (by omega)) ?_ | refine Plan.int (quoN (by omega)) ?_ | refine Plan.int (remN _ _) ?_ | refine Plan.int (u8N _) ?_ | skip))
    | refine J.seq (J.region mixed hI (by kernel_rfl) ?_)
    | refine J.region mixed hI (by kernel_rfl) ?_
    | refine J.seq (J.seq (J.region mixed hI (by kernel_rfl) ?_))
    | refine J.condF rfl ?_
    | refine J.condT rfl ?_
    | refine J.skip ?_)
        refine Nrm.closeOwn (t := 7) (key := 200) rfl rfl ?_
        exact Nrm.next (i + 1, (((k + i) / 8 : Nat) : Int)) ⟨hlt', hfy⟩ (by dsimp only; omega) (by repeat (first | exact Weak.nil | refine Weak.cons rfl (Sub.refl _) ?_))
      · dsimp only at hf0
        rw [if_neg hf0] at hfy
        repeat (first
    | refine Plan.move rfl rfl rfl rfl ?_
    | refine Plan.assign rfl rfl rfl rfl ?_
    | refine Plan.skip rfl rfl ?_
    | refine Plan.extract rfl rfl rfl rfl rfl ?_
    | refine Plan.pick rfl rfl rfl rfl rfl ?_
    | refine Plan.lenStr rfl rfl rfl rfl Try.underlying9 ?_
    | (refine Plan.ints rfl rfl rfl rfl rfl rfl ?_; (first | refine Plan.int (i64u8 _) ?_ | refine Plan.int (i64r (by omega)) ?_ | refine Plan.int (u64r (by omega)) ?_ | refine Plan.int (u8r (by omega)) ?_ | refine Plan.int (u16r (by omega)) ?_ | refine Plan.int (quoN (by omega)) ?_ | refine Plan.int (remN _ _) ?_ | refine Plan.int (u8N _) ?_ | skip))
    | refine Plan.un rfl rfl rfl rfl rfl ?_
    | refine Plan.lenB rfl rfl rfl rfl (by first | exact Sub.refl _ | exact Sub.own | exact Sub.old (fun _ h => h) | exact Sub.oldOwn (fun _ h => h) | exact Sub.nilRow | exact Sub.ownLower hB | exact Sub.nilOwn (fun _ h => Nat.le_trans hB h.size)) Try.underlying27 ?_
    | (refine Plan.convInt rfl rfl rfl rfl (by first | exact Try.underlying2 | exact Try.underlying3 | exact Try.underlying5 | exact Try.underlying21 | exact Try.underlying25 | exact Try.underlying33 | exact Try.underlying53 | exact Try.underlying89) (by first | exact Try.underlying2 | exact Try.underlying3 | exact Try.underlying5 | exact Try.underlying21 | exact Try.underlying25 | exact Try.underlying33 | exact Try.underlying53 | exact Try.underlying89) ?_; (first | refine Plan.int (i64u8 _) ?_ | refine Plan.int (i64r (by omega)) ?_ | refine Plan.int (u64r (by omega)) ?_ | refine Plan.int (u8r (by omega)) ?_ | refine Plan.int (u16r (by omega)) ?_ | refine Plan.int (quoN (by omega)) ?_ | refine Plan.int (remN _ _) ?_ | refine Plan.int (u8N _) ?_ | skip))
    | refine J.seq (J.region mixed hI (by kernel_rfl) ?_)
    | refine J.region mixed hI (by kernel_rfl) ?_
    | refine J.seq (J.seq (J.region mixed hI (by kernel_rfl) ?_))
    | refine J.condF rfl ?_
    | refine J.condT rfl ?_
    | refine J.skip ?_)
        refine Plan.int (y := ((i + 1 : Nat) : Int)) (by dsimp only; omega) ?_
        repeat (first
    | refine Plan.move rfl rfl rfl rfl ?_
    | refine Plan.assign rfl rfl rfl rfl ?_
    | refine Plan.skip rfl rfl ?_
    | refine Plan.extract rfl rfl rfl rfl rfl ?_
    | refine Plan.pick rfl rfl rfl rfl rfl ?_
    | refine Plan.lenStr rfl rfl rfl rfl Try.underlying9 ?_
    | (refine Plan.ints rfl rfl rfl rfl rfl rfl ?_; (first | refine Plan.int (i64u8 _) ?_ | refine Plan.int (i64r (by omega)) ?_ | refine Plan.int (u64r (by omega)) ?_ | refine Plan.int (u8r (by omega)) ?_ | refine Plan.int (u16r (by omega)) ?_ | refine Plan.int (quoN (by omega)) ?_ | refine Plan.int (remN _ _) ?_ | refine Plan.int (u8N _) ?_ | skip))
    | refine Plan.un rfl rfl rfl rfl rfl ?_
    | refine Plan.lenB rfl rfl rfl rfl (by first | exact Sub.refl _ | exact Sub.own | exact Sub.old (fun _ h => h) | exact Sub.oldOwn (fun _ h => h) | exact Sub.nilRow | exact Sub.ownLower hB | exact Sub.nilOwn (fun _ h => Nat.le_trans hB h.size)) Try.underlying27 ?_
    | (refine Plan.convInt rfl rfl rfl rfl (by first | exact Try.underlying2 | exact Try.underlying3 | exact Try.underlying5 | exact Try.underlying21 | exact Try.underlying25 | exact Try.underlying33 | exact Try.underlying53 | exact Try.underlying89) (by first | exact Try.underlying2 | exact Try.underlying3 | exact Try.underlying5 | exact Try.underlying21 | exact Try.underlying25 | exact Try.underlying33 | exact Try.underlying53 | exact Try.underlying89) ?_; (first | refine Plan.int (i64u8 _) ?_ | refine Plan.int (i64r (by omega)) ?_ | refine Plan.int (u64r (by omega)) ?_ | refine Plan.int (u8r (by omega)) ?_ | refine Plan.int (u16r (by omega)) ?_ | refine Plan.int (quoN (by omega)) ?_ | refine Plan.int (remN _ _) ?_ | refine Plan.int (u8N _) ?_ | skip))
    | refine J.seq (J.region mixed hI (by kernel_rfl) ?_)
    | refine J.region mixed hI (by kernel_rfl) ?_
    | refine J.seq (J.seq (J.region mixed hI (by kernel_rfl) ?_))
    | refine J.condF rfl ?_
    | refine J.condT rfl ?_
    | refine J.skip ?_)
        refine Nrm.closeOwn (t := 7) (key := 200) rfl rfl ?_
        exact Nrm.next (i + 1, f) ⟨hlt', hfy⟩ (by dsimp only; omega) (by repeat (first | exact Weak.nil | refine Weak.cons rfl (Sub.refl _) ?_))
    · have hb0 : selT t i = false := by show t.getLsbD (15 - i) = false; rw [bit_test]; exact decide_eq_false (by omega)
      have hfn := first_no hf hb0
      have hbs : burst (frames l) k (selT t) i = burst (frames l) k (selT t) (i + 1) := by
        conv => rhs; unfold burst
        rw [if_neg (by simp [hb0])]
      repeat (first
    | refine Plan.move rfl rfl rfl rfl ?_
    | refine Plan.assign rfl rfl rfl rfl ?_
    | refine Plan.skip rfl rfl ?_
    | refine Plan.extract rfl rfl rfl rfl rfl ?_
    | refine Plan.pick rfl rfl rfl rfl rfl ?_
    | refine Plan.lenStr rfl rfl rfl rfl Try.underlying9 ?_
    | (refine Plan.ints rfl rfl rfl rfl rfl rfl ?_; (first | refine Plan.int (i64u8 _) ?_ | refine Plan.int (i64r (by omega)) ?_ | refine Plan.int (u64r (by omega)) ?_ | refine Plan.int (u8r (by omega)) ?_ | refine Plan.int (u16r (by omega)) ?_ | refine Plan.int (quoN (by omega)) ?_ | refine Plan.int (remN _ _) ?_ | refine Plan.int (u8N _) ?_ | skip))
    | refine Plan.un rfl rfl rfl rfl rfl ?_
    | refine Plan.lenB rfl rfl rfl rfl (by first | exact Sub.refl _ | exact Sub.own | exact Sub.old (fun _ h => h) | exact Sub.oldOwn (fun _ h => h) | exact Sub.nilRow | exact Sub.ownLower hB | exact Sub.nilOwn (fun _ h => Nat.le_trans hB h.size)) Try.underlying27 ?_
    | (refine Plan.convInt rfl rfl rfl rfl (by first | exact Try.underlying2 | exact Try.underlying3 | exact Try.underlying5 | exact Try.underlying21 | exact Try.underlying25 | exact Try.underlying33 | exact Try.underlying53 | exact Try.underlying89) (by first | exact Try.underlying2 | exact Try.underlying3 | exact Try.underlying5 | exact Try.underlying21 | exact Try.underlying25 | exact Try.underlying33 | exact Try.underlying53 | exact Try.underlying89) ?_; (first | refine Plan.int (i64u8 _) ?_ | refine Plan.int (i64r (by omega)) ?_ | refine Plan.int (u64r (by omega)) ?_ | refine Plan.int (u8r (by omega)) ?_ | refine Plan.int (u16r (by omega)) ?_ | refine Plan.int (quoN (by omega)) ?_ | refine Plan.int (remN _ _) ?_ | refine Plan.int (u8N _) ?_ | skip))
    | refine J.seq (J.region mixed hI (by kernel_rfl) ?_)
    | refine J.region mixed hI (by kernel_rfl) ?_
    | refine J.seq (J.seq (J.region mixed hI (by kernel_rfl) ?_))
    | refine J.condF rfl ?_
    | refine J.condT rfl ?_
    | refine J.skip ?_)
      refine Plan.int (y := ((i + 1 : Nat) : Int)) (by dsimp only; omega) ?_
      repeat (first
    | refine Plan.move rfl rfl rfl rfl ?_
    | refine Plan.assign rfl rfl rfl rfl ?_
    | refine Plan.skip rfl rfl ?_
    | refine Plan.extract rfl rfl rfl rfl rfl ?_
    | refine Plan.pick rfl rfl rfl rfl rfl ?_
    | refine Plan.lenStr rfl rfl rfl rfl Try.underlying9 ?_
    | (refine Plan.ints rfl rfl rfl rfl rfl rfl ?_; (first | refine Plan.int (i64u8 _) ?_ | refine Plan.int (i64r (by omega)) ?_ | refine Plan.int (u64r (by omega)) ?_ | refine Plan.int (u8r (by omega)) ?_ | refine Plan.int (u16r (by omega)) ?_ | refine Plan.int (quoN (by omega)) ?_ | refine Plan.int (remN _ _) ?_ | refine Plan.int (u8N _) ?_ | skip))
    | refine Plan.un rfl rfl rfl rfl rfl ?_
    | refine Plan.lenB rfl rfl rfl rfl (by first | exact Sub.refl _ | exact Sub.own | exact Sub.old (fun _ h => h) | exact Sub.oldOwn (fun _ h => h) | exact Sub.nilRow | exact Sub.ownLower hB | exact Sub.nilOwn (fun _ h => Nat.le_trans hB h.size)) Try.underlying27 ?_
    | (refine Plan.convInt rfl rfl rfl rfl (by first | exact Try.underlying2 | exact Try.underlying3 | exact Try.underlying5 | exact Try.underlying21 | exact Try.underlying25 | exact Try.underlying33 | exact Try.underlying53 | exact Try.underlying89) (by first | exact Try.underlying2 | exact Try.underlying3 | exact Try.underlying5 | exact Try.underlying21 | exact Try.underlying25 | exact Try.underlying33 | exact Try.underlying53 | exact Try.underlying89) ?_; (first | refine Plan.int (i64u8 _) ?_ | refine Plan.int (i64r (by omega)) ?_ | refine Plan.int (u64r (by omega)) ?_ | refine Plan.int (u8r (by omega)) ?_ | refine Plan.int (u16r (by omega)) ?_ | refine Plan.int (quoN (by omega)) ?_ | refine Plan.int (remN _ _) ?_ | refine Plan.int (u8N _) ?_ | skip))
    | refine J.seq (J.region mixed hI (by kernel_rfl) ?_)
    | refine J.region mixed hI (by kernel_rfl) ?_
    | refine J.seq (J.seq (J.region mixed hI (by kernel_rfl) ?_))
    | refine J.condF rfl ?_
    | refine J.condT rfl ?_
    | refine J.skip ?_)
      refine Nrm.next (i + 1, f) ⟨hlt', hfn⟩ (by dsimp only; omega) ?_
      exact Weak.cons rfl (Sub.refl _) (Weak.cons rfl (Sub.refl _) (Weak.cons rfl (Sub.of_eq (by dsimp only; rw [hbs])) (Weak.cons rfl (Sub.refl _) (Weak.cons rfl (Sub.refl _) (Weak.cons rfl (Sub.refl _) Weak.nil)))))
  have hi16 : i = 16 := by dsimp only at hlt; omega
  subst hi16
  have ht0 : t ≠ 0#16 := fun e => h2 (by rw [e]; rfl)
  obtain ⟨j0, hj0, hj1, hj2, hj3⟩ : ∃ j, j < 16 ∧ selT t j = true ∧ (∀ q, q < j → selT t q = false) ∧ f = ((k + j) / 8 : Nat) := by
    rcases hf with ⟨_, hno⟩ | hyes
    · refine absurd (BitVec.eq_of_getLsbD_eq fun b hb => ?_) ht0
      have := hno (15 - b) (by omega)
      rw [show selT t (15 - b) = t.getLsbD (15 - (15 - b)) from rfl, show 15 - (15 - b) = b by omega] at this
      simpa using this
    · exact hyes
  subst hj3
  have hskip := burst_skip (frames l) k j0 (selT t) hj2 (15 - j0 + 1)
  rw [show j0 + (15 - j0 + 1) = 16 by omega] at hskip
  obtain ⟨m, hm1, hm2, hm3, hm4⟩ := scan_turned l hsm (k + j0) (fun q => selT t (j0 + q)) hj1 (15 - j0) (by omega) (by omega)
  rw [← hskip] at hm4
  have hbl : (burst (frames l) k (selT t) 16).length = (frames l).length := burst_length _ _ _ _
  have hS := frame_Scan (burst (frames l) k (selT t) 16) (by omega)
  rw [hm4, hbl] at hS
  dsimp only at hS
  obtain ⟨g, hg⟩ : ∃ g, g = l.take m := ⟨_, rfl⟩
  have hgl : g.length = m := by rw [hg, List.length_take]; omega
  have hend : (frames (l.take m)).length < (frames l).length := by omega
  rw [show ((((frames (l.take m)).length : Nat) : Int) == ((frames l).length : Nat)) = false by rw [beq_eq_false_iff_ne]; omega, ← hg] at hS
  refine J.exit ?_
  repeat (first
    | refine Plan.move rfl rfl rfl rfl ?_
    | refine Plan.assign rfl rfl rfl rfl ?_
    | refine Plan.skip rfl rfl ?_
    | refine Plan.extract rfl rfl rfl rfl rfl ?_
    | refine Plan.pick rfl rfl rfl rfl rfl ?_
    | refine Plan.lenStr rfl rfl rfl rfl Try.underlying9 ?_
    | (refine Plan.ints rfl rfl rfl rfl rfl rfl ?_; (first | refine Plan.int (i64u8 _) ?_ | refine Plan.int (i64r (by omega)) ?_ | refine Plan.int (u64r (by omega)) ?_ | refine Plan.int (u8r (by omega)) ?_ | refine Plan.int (u16r (by omega)) ?_ | refine Plan.int (quoN (by omega)) ?_ | refine Plan.int (remN _ _) ?_ | refine Plan.int (u8N _) ?_ | skip))
    | refine Plan.un rfl rfl rfl rfl rfl ?_
    | refine Plan.lenB rfl rfl rfl rfl (by first | exact Sub.refl _ | exact Sub.own | exact Sub.old (fun _ h => h) | exact Sub.oldOwn (fun _ h => h) | exact Sub.nilRow | exact Sub.ownLower hB | exact Sub.nilOwn (fun _ h => Nat.le_trans hB h.size)) Try.underlying27 ?_
    | (refine Plan.convInt rfl rfl rfl rfl (by first | exact Try.underlying2 | exact Try.underlying3 | exact Try.underlying5 | exact Try.underlying21 | exact Try.underlying25 | exact Try.underlying33 | exact Try.underlying53 | exact Try.underlying89) (by first | exact Try.underlying2 | exact Try.underlying3 | exact Try.underlying5 | exact Try.underlying21 | exact Try.underlying25 | exact Try.underlying33 | exact Try.underlying53 | exact Try.underlying89) ?_; (first | refine Plan.int (i64u8 _) ?_ | refine Plan.int (i64r (by omega)) ?_ | refine Plan.int (u64r (by omega)) ?_ | refine Plan.int (u8r (by omega)) ?_ | refine Plan.int (u16r (by omega)) ?_ | refine Plan.int (quoN (by omega)) ?_ | refine Plan.int (remN _ _) ?_ | refine Plan.int (u8N _) ?_ | skip))
    | refine J.seq (J.region mixed hI (by kernel_rfl) ?_)
    | refine J.region mixed hI (by kernel_rfl) ?_
    | refine J.seq (J.seq (J.region mixed hI (by kernel_rfl) ?_))
    | refine J.condF rfl ?_
    | refine J.condT rfl ?_
    | refine J.skip ?_)
  refine Plan.call (B := w0.heap.size) rfl rfl rfl (hS) Try.func29 rfl rfl (hBb w0) (by repeat (first | exact Opnds.nil | refine Opnds.cons rfl (by first | exact Sub.refl _ | exact Sub.own | exact Sub.old (fun _ h => h) | exact Sub.oldOwn (fun _ h => h) | exact Sub.nilRow) ?_)) ?_
  repeat (first
    | refine Plan.move rfl rfl rfl rfl ?_
    | refine Plan.assign rfl rfl rfl rfl ?_
    | refine Plan.skip rfl rfl ?_
    | refine Plan.extract rfl rfl rfl rfl rfl ?_
    | refine Plan.pick rfl rfl rfl rfl rfl ?_
    | refine Plan.lenStr rfl rfl rfl rfl Try.underlying9 ?_
    | (refine Plan.ints rfl rfl rfl rfl rfl rfl ?_; (first | refine Plan.int (i64u8 _) ?_ | refine Plan.int (i64r (by omega)) ?_ | refine Plan.int (u64r (by omega)) ?_ | refine Plan.int (u8r (by omega)) ?_ | refine Plan.int (u16r (by omega)) ?_ | refine Plan.int (quoN (by omega)) ?_ | refine Plan.int (remN _ _) ?_ | refine Plan.int (u8N _) ?_ | skip))
    | refine Plan.un rfl rfl rfl rfl rfl ?_
    | refine Plan.lenB rfl rfl rfl rfl (by first | exact Sub.refl _ | exact Sub.own | exact Sub.old (fun _ h => h) | exact Sub.oldOwn (fun _ h => h) | exact Sub.nilRow | exact Sub.ownLower hB | exact Sub.nilOwn (fun _ h => Nat.le_trans hB h.size)) Try.underlying27 ?_
    | (refine Plan.convInt rfl rfl rfl rfl (by first | exact Try.underlying2 | exact Try.underlying3 | exact Try.underlying5 | exact Try.underlying21 | exact Try.underlying25 | exact Try.underlying33 | exact Try.underlying53 | exact Try.underlying89) (by first | exact Try.underlying2 | exact Try.underlying3 | exact Try.underlying5 | exact Try.underlying21 | exact Try.underlying25 | exact Try.underlying33 | exact Try.underlying53 | exact Try.underlying89) ?_; (first | refine Plan.int (i64u8 _) ?_ | refine Plan.int (i64r (by omega)) ?_ | refine Plan.int (u64r (by omega)) ?_ | refine Plan.int (u8r (by omega)) ?_ | refine Plan.int (u16r (by omega)) ?_ | refine Plan.int (quoN (by omega)) ?_ | refine Plan.int (remN _ _) ?_ | refine Plan.int (u8N _) ?_ | skip))
    | refine J.seq (J.region mixed hI (by kernel_rfl) ?_)
    | refine J.region mixed hI (by kernel_rfl) ?_
    | refine J.seq (J.seq (J.region mixed hI (by kernel_rfl) ?_))
    | refine J.condF rfl ?_
    | refine J.condT rfl ?_
    | refine J.skip ?_)
  refine J.seq (J.block (J.loop (ftW w0 l g (frames g).length false ((k + j0) / 8)) (fun w => w ≤ m) (fun w => m - w) 0 (Nat.zero_le _) ?_ ?_))
  · repeat (first | exact Weak.nil | refine Weak.cons rfl (Sub.refl _) ?_)
  intro w hw
  repeat (first
    | refine Plan.move rfl rfl rfl rfl ?_
    | refine Plan.assign rfl rfl rfl rfl ?_
    | refine Plan.skip rfl rfl ?_
    | refine Plan.extract rfl rfl rfl rfl rfl ?_
    | refine Plan.pick rfl rfl rfl rfl rfl ?_
    | refine Plan.lenStr rfl rfl rfl rfl Try.underlying9 ?_
    | (refine Plan.ints rfl rfl rfl rfl rfl rfl ?_; (first | refine Plan.int (i64u8 _) ?_ | refine Plan.int (i64r (by omega)) ?_ | refine Plan.int (u64r (by omega)) ?_ | refine Plan.int (u8r (by omega)) ?_ | refine Plan.int (u16r (by omega)) ?_ | refine Plan.int (quoN (by omega)) ?_ | refine Plan.int (remN _ _) ?_ | refine Plan.int (u8N _) ?_ | skip))
    | refine Plan.un rfl rfl rfl rfl rfl ?_
    | refine Plan.lenB rfl rfl rfl rfl (by first | exact Sub.refl _ | exact Sub.own | exact Sub.old (fun _ h => h) | exact Sub.oldOwn (fun _ h => h) | exact Sub.nilRow | exact Sub.ownLower hB | exact Sub.nilOwn (fun _ h => Nat.le_trans hB h.size)) Try.underlying27 ?_
    | (refine Plan.convInt rfl rfl rfl rfl (by first | exact Try.underlying2 | exact Try.underlying3 | exact Try.underlying5 | exact Try.underlying21 | exact Try.underlying25 | exact Try.underlying33 | exact Try.underlying53 | exact Try.underlying89) (by first | exact Try.underlying2 | exact Try.underlying3 | exact Try.underlying5 | exact Try.underlying21 | exact Try.underlying25 | exact Try.underlying33 | exact Try.underlying53 | exact Try.underlying89) ?_; (first | refine Plan.int (i64u8 _) ?_ | refine Plan.int (i64r (by omega)) ?_ | refine Plan.int (u64r (by omega)) ?_ | refine Plan.int (u8r (by omega)) ?_ | refine Plan.int (u16r (by omega)) ?_ | refine Plan.int (quoN (by omega)) ?_ | refine Plan.int (remN _ _) ?_ | refine Plan.int (u8N _) ?_ | skip))
    | refine J.seq (J.region mixed hI (by kernel_rfl) ?_)
    | refine J.region mixed hI (by kernel_rfl) ?_
    | refine J.seq (J.seq (J.region mixed hI (by kernel_rfl) ?_))
    | refine J.condF rfl ?_
    | refine J.condT rfl ?_
    | refine J.skip ?_)
  refine Plan.lenRow (m := l.length) rfl rfl rfl rfl (Sub.old fun _ h => h) Try.underlying48 (by rw [ss_length]; omega) (by decide) ?_
  repeat (first
    | refine Plan.move rfl rfl rfl rfl ?_
    | refine Plan.assign rfl rfl rfl rfl ?_
    | refine Plan.skip rfl rfl ?_
    | refine Plan.extract rfl rfl rfl rfl rfl ?_
    | refine Plan.pick rfl rfl rfl rfl rfl ?_
    | refine Plan.lenStr rfl rfl rfl rfl Try.underlying9 ?_
    | (refine Plan.ints rfl rfl rfl rfl rfl rfl ?_; (first | refine Plan.int (i64u8 _) ?_ | refine Plan.int (i64r (by omega)) ?_ | refine Plan.int (u64r (by omega)) ?_ | refine Plan.int (u8r (by omega)) ?_ | refine Plan.int (u16r (by omega)) ?_ | refine Plan.int (quoN (by omega)) ?_ | refine Plan.int (remN _ _) ?_ | refine Plan.int (u8N _) ?_ | skip))
    | refine Plan.un rfl rfl rfl rfl rfl ?_
    | refine Plan.lenB rfl rfl rfl rfl (by first | exact Sub.refl _ | exact Sub.own | exact Sub.old (fun _ h => h) | exact Sub.oldOwn (fun _ h => h) | exact Sub.nilRow | exact Sub.ownLower hB | exact Sub.nilOwn (fun _ h => Nat.le_trans hB h.size)) Try.underlying27 ?_
    | (refine Plan.convInt rfl rfl rfl rfl (by first | exact Try.underlying2 | exact Try.underlying3 | exact Try.underlying5 | exact Try.underlying21 | exact Try.underlying25 | exact Try.underlying33 | exact Try.underlying53 | exact Try.underlying89) (by first | exact Try.underlying2 | exact Try.underlying3 | exact Try.underlying5 | exact Try.underlying21 | exact Try.underlying25 | exact Try.underlying33 | exact Try.underlying53 | exact Try.underlying89) ?_; (first | refine Plan.int (i64u8 _) ?_ | refine Plan.int (i64r (by omega)) ?_ | refine Plan.int (u64r (by omega)) ?_ | refine Plan.int (u8r (by omega)) ?_ | refine Plan.int (u16r (by omega)) ?_ | refine Plan.int (quoN (by omega)) ?_ | refine Plan.int (remN _ _) ?_ | refine Plan.int (u8N _) ?_ | skip))
    | refine J.seq (J.region mixed hI (by kernel_rfl) ?_)
    | refine J.region mixed hI (by kernel_rfl) ?_
    | refine J.seq (J.seq (J.region mixed hI (by kernel_rfl) ?_))
    | refine J.condF rfl ?_
    | refine J.condT rfl ?_
    | refine J.skip ?_)
  refine Plan.isT (by omega) ?_
  repeat (first
    | refine Plan.move rfl rfl rfl rfl ?_
    | refine Plan.assign rfl rfl rfl rfl ?_
    | refine Plan.skip rfl rfl ?_
    | refine Plan.extract rfl rfl rfl rfl rfl ?_
    | refine Plan.pick rfl rfl rfl rfl rfl ?_
    | refine Plan.lenStr rfl rfl rfl rfl Try.underlying9 ?_
    | (refine Plan.ints rfl rfl rfl rfl rfl rfl ?_; (first | refine Plan.int (i64u8 _) ?_ | refine Plan.int (i64r (by omega)) ?_ | refine Plan.int (u64r (by omega)) ?_ | refine Plan.int (u8r (by omega)) ?_ | refine Plan.int (u16r (by omega)) ?_ | refine Plan.int (quoN (by omega)) ?_ | refine Plan.int (remN _ _) ?_ | refine Plan.int (u8N _) ?_ | skip))
    | refine Plan.un rfl rfl rfl rfl rfl ?_
    | refine Plan.lenB rfl rfl rfl rfl (by first | exact Sub.refl _ | exact Sub.own | exact Sub.old (fun _ h => h) | exact Sub.oldOwn (fun _ h => h) | exact Sub.nilRow | exact Sub.ownLower hB | exact Sub.nilOwn (fun _ h => Nat.le_trans hB h.size)) Try.underlying27 ?_
    | (refine Plan.convInt rfl rfl rfl rfl (by first | exact Try.underlying2 | exact Try.underlying3 | exact Try.underlying5 | exact Try.underlying21 | exact Try.underlying25 | exact Try.underlying33 | exact Try.underlying53 | exact Try.underlying89) (by first | exact Try.underlying2 | exact Try.underlying3 | exact Try.underlying5 | exact Try.underlying21 | exact Try.underlying25 | exact Try.underlying33 | exact Try.underlying53 | exact Try.underlying89) ?_; (first | refine Plan.int (i64u8 _) ?_ | refine Plan.int (i64r (by omega)) ?_ | refine Plan.int (u64r (by omega)) ?_ | refine Plan.int (u8r (by omega)) ?_ | refine Plan.int (u16r (by omega)) ?_ | refine Plan.int (quoN (by omega)) ?_ | refine Plan.int (remN _ _) ?_ | refine Plan.int (u8N _) ?_ | skip))
    | refine J.seq (J.region mixed hI (by kernel_rfl) ?_)
    | refine J.region mixed hI (by kernel_rfl) ?_
    | refine J.seq (J.seq (J.region mixed hI (by kernel_rfl) ?_))
    | refine J.condF rfl ?_
    | refine J.condT rfl ?_
    | refine J.skip ?_)
  refine Plan.indexAddr (fun l : List UInt8 => [str l]) 1 l [] rfl rfl rfl rfl (Sub.trans (Sub.old fun _ h => h) (Sub.of_eq (by rw [ss_flat]))) rfl eltS (fun _ => rfl) (by omega) (by omega) ?_
  refine Plan.load rfl rfl rfl rfl (Sub.refl _) Try.underlying9 rfl ?_
  rw [Int.toNat_natCast]
  have hwl : w < l.length := by omega
  have hst := frames_step hwl
  have hmo := frames_mono (ls := l) hw
  have hxl : (l.getD w []).length ≤ 1000 := by
    rw [List.getD_eq_getElem?_getD, List.getElem?_eq_getElem hwl]; exact ha'.2 _ (List.getElem_mem hwl)
  repeat (first
    | refine Plan.move rfl rfl rfl rfl ?_
    | refine Plan.assign rfl rfl rfl rfl ?_
    | refine Plan.skip rfl rfl ?_
    | refine Plan.extract rfl rfl rfl rfl rfl ?_
    | refine Plan.pick rfl rfl rfl rfl rfl ?_
    | refine Plan.lenStr rfl rfl rfl rfl Try.underlying9 ?_
    | (refine Plan.ints rfl rfl rfl rfl rfl rfl ?_; (first | refine Plan.int (i64u8 _) ?_ | refine Plan.int (i64r (by omega)) ?_ | refine Plan.int (u64r (by omega)) ?_ | refine Plan.int (u8r (by omega)) ?_ | refine Plan.int (u16r (by omega)) ?_ | refine Plan.int (quoN (by omega)) ?_ | refine Plan.int (remN _ _) ?_ | refine Plan.int (u8N _) ?_ | skip))
    | refine Plan.un rfl rfl rfl rfl rfl ?_
    | refine Plan.lenB rfl rfl rfl rfl (by first | exact Sub.refl _ | exact Sub.own | exact Sub.old (fun _ h => h) | exact Sub.oldOwn (fun _ h => h) | exact Sub.nilRow | exact Sub.ownLower hB | exact Sub.nilOwn (fun _ h => Nat.le_trans hB h.size)) Try.underlying27 ?_
    | (refine Plan.convInt rfl rfl rfl rfl (by first | exact Try.underlying2 | exact Try.underlying3 | exact Try.underlying5 | exact Try.underlying21 | exact Try.underlying25 | exact Try.underlying33 | exact Try.underlying53 | exact Try.underlying89) (by first | exact Try.underlying2 | exact Try.underlying3 | exact Try.underlying5 | exact Try.underlying21 | exact Try.underlying25 | exact Try.underlying33 | exact Try.underlying53 | exact Try.underlying89) ?_; (first | refine Plan.int (i64u8 _) ?_ | refine Plan.int (i64r (by omega)) ?_ | refine Plan.int (u64r (by omega)) ?_ | refine Plan.int (u8r (by omega)) ?_ | refine Plan.int (u16r (by omega)) ?_ | refine Plan.int (quoN (by omega)) ?_ | refine Plan.int (remN _ _) ?_ | refine Plan.int (u8N _) ?_ | skip))
    | refine J.seq (J.region mixed hI (by kernel_rfl) ?_)
    | refine J.region mixed hI (by kernel_rfl) ?_
    | refine J.seq (J.seq (J.region mixed hI (by kernel_rfl) ?_))
    | refine J.condF rfl ?_
    | refine J.condT rfl ?_
    | refine J.skip ?_)
  refine J.condD rfl (fun hgo => ?_) (fun hgo => ?_)
  · have hwm : w ≠ m := by
      intro e; subst e; omega
    repeat (first
    | refine Plan.move rfl rfl rfl rfl ?_
    | refine Plan.assign rfl rfl rfl rfl ?_
    | refine Plan.skip rfl rfl ?_
    | refine Plan.extract rfl rfl rfl rfl rfl ?_
    | refine Plan.pick rfl rfl rfl rfl rfl ?_
    | refine Plan.lenStr rfl rfl rfl rfl Try.underlying9 ?_
    | (refine Plan.ints rfl rfl rfl rfl rfl rfl ?_; (first | refine Plan.int (i64u8 _) ?_ | refine Plan.int (i64r (by omega)) ?_ | refine Plan.int (u64r (by omega)) ?_ | refine Plan.int (u8r (by omega)) ?_ | refine Plan.int (u16r (by omega)) ?_ | refine Plan.int (quoN (by omega)) ?_ | refine Plan.int (remN _ _) ?_ | refine Plan.int (u8N _) ?_ | skip))
    | refine Plan.un rfl rfl rfl rfl rfl ?_
    | refine Plan.lenB rfl rfl rfl rfl (by first | exact Sub.refl _ | exact Sub.own | exact Sub.old (fun _ h => h) | exact Sub.oldOwn (fun _ h => h) | exact Sub.nilRow | exact Sub.ownLower hB | exact Sub.nilOwn (fun _ h => Nat.le_trans hB h.size)) Try.underlying27 ?_
    | (refine Plan.convInt rfl rfl rfl rfl (by first | exact Try.underlying2 | exact Try.underlying3 | exact Try.underlying5 | exact Try.underlying21 | exact Try.underlying25 | exact Try.underlying33 | exact Try.underlying53 | exact Try.underlying89) (by first | exact Try.underlying2 | exact Try.underlying3 | exact Try.underlying5 | exact Try.underlying21 | exact Try.underlying25 | exact Try.underlying33 | exact Try.underlying53 | exact Try.underlying89) ?_; (first | refine Plan.int (i64u8 _) ?_ | refine Plan.int (i64r (by omega)) ?_ | refine Plan.int (u64r (by omega)) ?_ | refine Plan.int (u8r (by omega)) ?_ | refine Plan.int (u16r (by omega)) ?_ | refine Plan.int (quoN (by omega)) ?_ | refine Plan.int (remN _ _) ?_ | refine Plan.int (u8N _) ?_ | skip))
    | refine J.seq (J.region mixed hI (by kernel_rfl) ?_)
    | refine J.region mixed hI (by kernel_rfl) ?_
    | refine J.seq (J.seq (J.region mixed hI (by kernel_rfl) ?_))
    | refine J.condF rfl ?_
    | refine J.condT rfl ?_
    | refine J.skip ?_)
    refine J.block ?_
    repeat (first
    | refine Plan.move rfl rfl rfl rfl ?_
    | refine Plan.assign rfl rfl rfl rfl ?_
    | refine Plan.skip rfl rfl ?_
    | refine Plan.extract rfl rfl rfl rfl rfl ?_
    | refine Plan.pick rfl rfl rfl rfl rfl ?_
    | refine Plan.lenStr rfl rfl rfl rfl Try.underlying9 ?_
    | (refine Plan.ints rfl rfl rfl rfl rfl rfl ?_; (first | refine Plan.int (i64u8 _) ?_ | refine Plan.int (i64r (by omega)) ?_ | refine Plan.int (u64r (by omega)) ?_ | refine Plan.int (u8r (by omega)) ?_ | refine Plan.int (u16r (by omega)) ?_ | refine Plan.int (quoN (by omega)) ?_ | refine Plan.int (remN _ _) ?_ | refine Plan.int (u8N _) ?_ | skip))
    | refine Plan.un rfl rfl rfl rfl rfl ?_
    | refine Plan.lenB rfl rfl rfl rfl (by first | exact Sub.refl _ | exact Sub.own | exact Sub.old (fun _ h => h) | exact Sub.oldOwn (fun _ h => h) | exact Sub.nilRow | exact Sub.ownLower hB | exact Sub.nilOwn (fun _ h => Nat.le_trans hB h.size)) Try.underlying27 ?_
    | (refine Plan.convInt rfl rfl rfl rfl (by first | exact Try.underlying2 | exact Try.underlying3 | exact Try.underlying5 | exact Try.underlying21 | exact Try.underlying25 | exact Try.underlying33 | exact Try.underlying53 | exact Try.underlying89) (by first | exact Try.underlying2 | exact Try.underlying3 | exact Try.underlying5 | exact Try.underlying21 | exact Try.underlying25 | exact Try.underlying33 | exact Try.underlying53 | exact Try.underlying89) ?_; (first | refine Plan.int (i64u8 _) ?_ | refine Plan.int (i64r (by omega)) ?_ | refine Plan.int (u64r (by omega)) ?_ | refine Plan.int (u8r (by omega)) ?_ | refine Plan.int (u16r (by omega)) ?_ | refine Plan.int (quoN (by omega)) ?_ | refine Plan.int (remN _ _) ?_ | refine Plan.int (u8N _) ?_ | skip))
    | refine J.seq (J.region mixed hI (by kernel_rfl) ?_)
    | refine J.region mixed hI (by kernel_rfl) ?_
    | refine J.seq (J.seq (J.region mixed hI (by kernel_rfl) ?_))
    | refine J.condF rfl ?_
    | refine J.condT rfl ?_
    | refine J.skip ?_)
    refine Plan.indexAddr (fun l : List UInt8 => [str l]) 1 l [] rfl rfl rfl rfl (Sub.trans (Sub.old fun _ h => h) (Sub.of_eq (by rw [ss_flat]))) rfl eltS (fun _ => rfl) (by omega) (by omega) ?_
    refine Plan.load rfl rfl rfl rfl (Sub.refl _) Try.underlying9 rfl ?_
    rw [Int.toNat_natCast]
    repeat (first
    | refine Plan.move rfl rfl rfl rfl ?_
    | refine Plan.assign rfl rfl rfl rfl ?_
    | refine Plan.skip rfl rfl ?_
    | refine Plan.extract rfl rfl rfl rfl rfl ?_
    | refine Plan.pick rfl rfl rfl rfl rfl ?_
    | refine Plan.lenStr rfl rfl rfl rfl Try.underlying9 ?_
    | (refine Plan.ints rfl rfl rfl rfl rfl rfl ?_; (first | refine Plan.int (i64u8 _) ?_ | refine Plan.int (i64r (by omega)) ?_ | refine Plan.int (u64r (by omega)) ?_ | refine Plan.int (u8r (by omega)) ?_ | refine Plan.int (u16r (by omega)) ?_ | refine Plan.int (quoN (by omega)) ?_ | refine Plan.int (remN _ _) ?_ | refine Plan.int (u8N _) ?_ | skip))
    | refine Plan.un rfl rfl rfl rfl rfl ?_
    | refine Plan.lenB rfl rfl rfl rfl (by first | exact Sub.refl _ | exact Sub.own | exact Sub.old (fun _ h => h) | exact Sub.oldOwn (fun _ h => h) | exact Sub.nilRow | exact Sub.ownLower hB | exact Sub.nilOwn (fun _ h => Nat.le_trans hB h.size)) Try.underlying27 ?_
    | (refine Plan.convInt rfl rfl rfl rfl (by first | exact Try.underlying2 | exact Try.underlying3 | exact Try.underlying5 | exact Try.underlying21 | exact Try.underlying25 | exact Try.underlying33 | exact Try.underlying53 | exact Try.underlying89) (by first | exact Try.underlying2 | exact Try.underlying3 | exact Try.underlying5 | exact Try.underlying21 | exact Try.underlying25 | exact Try.underlying33 | exact Try.underlying53 | exact Try.underlying89) ?_; (first | refine Plan.int (i64u8 _) ?_ | refine Plan.int (i64r (by omega)) ?_ | refine Plan.int (u64r (by omega)) ?_ | refine Plan.int (u8r (by omega)) ?_ | refine Plan.int (u16r (by omega)) ?_ | refine Plan.int (quoN (by omega)) ?_ | refine Plan.int (remN _ _) ?_ | refine Plan.int (u8N _) ?_ | skip))
    | refine J.seq (J.region mixed hI (by kernel_rfl) ?_)
    | refine J.region mixed hI (by kernel_rfl) ?_
    | refine J.seq (J.seq (J.region mixed hI (by kernel_rfl) ?_))
    | refine J.condF rfl ?_
    | refine J.condT rfl ?_
    | refine J.skip ?_)
    refine Plan.int (y := ((w + 1 : Nat) : Int)) (by omega) ?_
    repeat (first
    | refine Plan.move rfl rfl rfl rfl ?_
    | refine Plan.assign rfl rfl rfl rfl ?_
    | refine Plan.skip rfl rfl ?_
    | refine Plan.extract rfl rfl rfl rfl rfl ?_
    | refine Plan.pick rfl rfl rfl rfl rfl ?_
    | refine Plan.lenStr rfl rfl rfl rfl Try.underlying9 ?_
    | (refine Plan.ints rfl rfl rfl rfl rfl rfl ?_; (first | refine Plan.int (i64u8 _) ?_ | refine Plan.int (i64r (by omega)) ?_ | refine Plan.int (u64r (by omega)) ?_ | refine Plan.int (u8r (by omega)) ?_ | refine Plan.int (u16r (by omega)) ?_ | refine Plan.int (quoN (by omega)) ?_ | refine Plan.int (remN _ _) ?_ | refine Plan.int (u8N _) ?_ | skip))
    | refine Plan.un rfl rfl rfl rfl rfl ?_
    | refine Plan.lenB rfl rfl rfl rfl (by first | exact Sub.refl _ | exact Sub.own | exact Sub.old (fun _ h => h) | exact Sub.oldOwn (fun _ h => h) | exact Sub.nilRow | exact Sub.ownLower hB | exact Sub.nilOwn (fun _ h => Nat.le_trans hB h.size)) Try.underlying27 ?_
    | (refine Plan.convInt rfl rfl rfl rfl (by first | exact Try.underlying2 | exact Try.underlying3 | exact Try.underlying5 | exact Try.underlying21 | exact Try.underlying25 | exact Try.underlying33 | exact Try.underlying53 | exact Try.underlying89) (by first | exact Try.underlying2 | exact Try.underlying3 | exact Try.underlying5 | exact Try.underlying21 | exact Try.underlying25 | exact Try.underlying33 | exact Try.underlying53 | exact Try.underlying89) ?_; (first | refine Plan.int (i64u8 _) ?_ | refine Plan.int (i64r (by omega)) ?_ | refine Plan.int (u64r (by omega)) ?_ | refine Plan.int (u8r (by omega)) ?_ | refine Plan.int (u16r (by omega)) ?_ | refine Plan.int (quoN (by omega)) ?_ | refine Plan.int (remN _ _) ?_ | refine Plan.int (u8N _) ?_ | skip))
    | refine J.seq (J.region mixed hI (by kernel_rfl) ?_)
    | refine J.region mixed hI (by kernel_rfl) ?_
    | refine J.seq (J.seq (J.region mixed hI (by kernel_rfl) ?_))
    | refine J.condF rfl ?_
    | refine J.condT rfl ?_
    | refine J.skip ?_)
    exact Nrm.next (w + 1) (by omega) (by omega) (Weak.cons rfl (Sub.refl _) (Weak.cons rfl (Sub.refl _) (Weak.cons rfl (Sub.refl _) (Weak.cons rfl (Sub.refl _) (Weak.cons rfl (Sub.refl _) (Weak.cons rfl (Sub.of_eq (congrArg (fun z => Fa.ex (.int .i64 z)) (by omega))) (Weak.cons rfl (Sub.refl _) Weak.nil)))))))
  have hwe : w = m := by
    rcases Nat.lt_or_ge w m with hlt2 | hge
    · have hm4 := frames_mono (ls := l) (show w + 1 ≤ m from hlt2)
      omega
    · omega
  refine J.exit ?_
  subst hwe
  repeat (first
    | refine Plan.move rfl rfl rfl rfl ?_
    | refine Plan.assign rfl rfl rfl rfl ?_
    | refine Plan.skip rfl rfl ?_
    | refine Plan.extract rfl rfl rfl rfl rfl ?_
    | refine Plan.pick rfl rfl rfl rfl rfl ?_
    | refine Plan.lenStr rfl rfl rfl rfl Try.underlying9 ?_
    | (refine Plan.ints rfl rfl rfl rfl rfl rfl ?_; (first | refine Plan.int (i64u8 _) ?_ | refine Plan.int (i64r (by omega)) ?_ | refine Plan.int (u64r (by omega)) ?_ | refine Plan.int (u8r (by omega)) ?_ | refine Plan.int (u16r (by omega)) ?_ | refine Plan.int (quoN (by omega)) ?_ | refine Plan.int (remN _ _) ?_ | refine Plan.int (u8N _) ?_ | skip))
    | refine Plan.un rfl rfl rfl rfl rfl ?_
    | refine Plan.lenB rfl rfl rfl rfl (by first | exact Sub.refl _ | exact Sub.own | exact Sub.old (fun _ h => h) | exact Sub.oldOwn (fun _ h => h) | exact Sub.nilRow | exact Sub.ownLower hB | exact Sub.nilOwn (fun _ h => Nat.le_trans hB h.size)) Try.underlying27 ?_
    | (refine Plan.convInt rfl rfl rfl rfl (by first | exact Try.underlying2 | exact Try.underlying3 | exact Try.underlying5 | exact Try.underlying21 | exact Try.underlying25 | exact Try.underlying33 | exact Try.underlying53 | exact Try.underlying89) (by first | exact Try.underlying2 | exact Try.underlying3 | exact Try.underlying5 | exact Try.underlying21 | exact Try.underlying25 | exact Try.underlying33 | exact Try.underlying53 | exact Try.underlying89) ?_; (first | refine Plan.int (i64u8 _) ?_ | refine Plan.int (i64r (by omega)) ?_ | refine Plan.int (u64r (by omega)) ?_ | refine Plan.int (u8r (by omega)) ?_ | refine Plan.int (u16r (by omega)) ?_ | refine Plan.int (quoN (by omega)) ?_ | refine Plan.int (remN _ _) ?_ | refine Plan.int (u8N _) ?_ | skip))
    | refine J.seq (J.region mixed hI (by kernel_rfl) ?_)
    | refine J.region mixed hI (by kernel_rfl) ?_
    | refine J.seq (J.seq (J.region mixed hI (by kernel_rfl) ?_))
    | refine J.condF rfl ?_
    | refine J.condT rfl ?_
    | refine J.skip ?_)
  refine Plan.lenNest rfl rfl rfl rfl Sub.nestRead Try.underlying45 ?_
  rw [List.length_map, hgl]
  repeat (first
    | refine Plan.move rfl rfl rfl rfl ?_
    | refine Plan.assign rfl rfl rfl rfl ?_
    | refine Plan.skip rfl rfl ?_
    | refine Plan.extract rfl rfl rfl rfl rfl ?_
    | refine Plan.pick rfl rfl rfl rfl rfl ?_
    | refine Plan.lenStr rfl rfl rfl rfl Try.underlying9 ?_
    | (refine Plan.ints rfl rfl rfl rfl rfl rfl ?_; (first | refine Plan.int (i64u8 _) ?_ | refine Plan.int (i64r (by omega)) ?_ | refine Plan.int (u64r (by omega)) ?_ | refine Plan.int (u8r (by omega)) ?_ | refine Plan.int (u16r (by omega)) ?_ | refine Plan.int (quoN (by omega)) ?_ | refine Plan.int (remN _ _) ?_ | refine Plan.int (u8N _) ?_ | skip))
    | refine Plan.un rfl rfl rfl rfl rfl ?_
    | refine Plan.lenB rfl rfl rfl rfl (by first | exact Sub.refl _ | exact Sub.own | exact Sub.old (fun _ h => h) | exact Sub.oldOwn (fun _ h => h) | exact Sub.nilRow | exact Sub.ownLower hB | exact Sub.nilOwn (fun _ h => Nat.le_trans hB h.size)) Try.underlying27 ?_
    | (refine Plan.convInt rfl rfl rfl rfl (by first | exact Try.underlying2 | exact Try.underlying3 | exact Try.underlying5 | exact Try.underlying21 | exact Try.underlying25 | exact Try.underlying33 | exact Try.underlying53 | exact Try.underlying89) (by first | exact Try.underlying2 | exact Try.underlying3 | exact Try.underlying5 | exact Try.underlying21 | exact Try.underlying25 | exact Try.underlying33 | exact Try.underlying53 | exact Try.underlying89) ?_; (first | refine Plan.int (i64u8 _) ?_ | refine Plan.int (i64r (by omega)) ?_ | refine Plan.int (u64r (by omega)) ?_ | refine Plan.int (u8r (by omega)) ?_ | refine Plan.int (u16r (by omega)) ?_ | refine Plan.int (quoN (by omega)) ?_ | refine Plan.int (remN _ _) ?_ | refine Plan.int (u8N _) ?_ | skip))
    | refine J.seq (J.region mixed hI (by kernel_rfl) ?_)
    | refine J.region mixed hI (by kernel_rfl) ?_
    | refine J.seq (J.seq (J.region mixed hI (by kernel_rfl) ?_))
    | refine J.condF rfl ?_
    | refine J.condT rfl ?_
    | refine J.skip ?_)
  refine Plan.eqT rfl ?_
  repeat (first
    | refine Plan.move rfl rfl rfl rfl ?_
    | refine Plan.assign rfl rfl rfl rfl ?_
    | refine Plan.skip rfl rfl ?_
    | refine Plan.extract rfl rfl rfl rfl rfl ?_
    | refine Plan.pick rfl rfl rfl rfl rfl ?_
    | refine Plan.lenStr rfl rfl rfl rfl Try.underlying9 ?_
    | (refine Plan.ints rfl rfl rfl rfl rfl rfl ?_; (first | refine Plan.int (i64u8 _) ?_ | refine Plan.int (i64r (by omega)) ?_ | refine Plan.int (u64r (by omega)) ?_ | refine Plan.int (u8r (by omega)) ?_ | refine Plan.int (u16r (by omega)) ?_ | refine Plan.int (quoN (by omega)) ?_ | refine Plan.int (remN _ _) ?_ | refine Plan.int (u8N _) ?_ | skip))
    | refine Plan.un rfl rfl rfl rfl rfl ?_
    | refine Plan.lenB rfl rfl rfl rfl (by first | exact Sub.refl _ | exact Sub.own | exact Sub.old (fun _ h => h) | exact Sub.oldOwn (fun _ h => h) | exact Sub.nilRow | exact Sub.ownLower hB | exact Sub.nilOwn (fun _ h => Nat.le_trans hB h.size)) Try.underlying27 ?_
    | (refine Plan.convInt rfl rfl rfl rfl (by first | exact Try.underlying2 | exact Try.underlying3 | exact Try.underlying5 | exact Try.underlying21 | exact Try.underlying25 | exact Try.underlying33 | exact Try.underlying53 | exact Try.underlying89) (by first | exact Try.underlying2 | exact Try.underlying3 | exact Try.underlying5 | exact Try.underlying21 | exact Try.underlying25 | exact Try.underlying33 | exact Try.underlying53 | exact Try.underlying89) ?_; (first | refine Plan.int (i64u8 _) ?_ | refine Plan.int (i64r (by omega)) ?_ | refine Plan.int (u64r (by omega)) ?_ | refine Plan.int (u8r (by omega)) ?_ | refine Plan.int (u16r (by omega)) ?_ | refine Plan.int (quoN (by omega)) ?_ | refine Plan.int (remN _ _) ?_ | refine Plan.int (u8N _) ?_ | skip))
    | refine J.seq (J.region mixed hI (by kernel_rfl) ?_)
    | refine J.region mixed hI (by kernel_rfl) ?_
    | refine J.seq (J.seq (J.region mixed hI (by kernel_rfl) ?_))
    | refine J.condF rfl ?_
    | refine J.condT rfl ?_
    | refine J.skip ?_)
  refine Plan.sliceRow (m := l.length) (a0 := 0) (b0 := w) rfl rfl rfl rfl (Sub.old fun _ h => h) eltS (by rw [ss_length]; omega) (.inl ⟨rfl, rfl⟩) (.inr ⟨_, _, rfl, rfl⟩) (Nat.zero_le _) (by omega) ?_
  have hsl : ((ss l).take (w * 1)).drop (0 * 1) = ss g := by rw [hg]; simp [ss, List.map_take]
  rw [hsl]
  refine Plan.call (B := w0.heap.size) rfl rfl rfl (law_texts g g (by omega) (by omega)) Try.func31 rfl rfl (hBb w0) (Opnds.cons rfl (Sub.trans Sub.nestRead (Sub.nestMap fun _ => Sub.own)) (Opnds.cons rfl (Sub.refl _) Opnds.nil)) ?_
  refine Plan.isT rfl ?_
  repeat (first
    | refine Plan.move rfl rfl rfl rfl ?_
    | refine Plan.assign rfl rfl rfl rfl ?_
    | refine Plan.skip rfl rfl ?_
    | refine Plan.extract rfl rfl rfl rfl rfl ?_
    | refine Plan.pick rfl rfl rfl rfl rfl ?_
    | refine Plan.lenStr rfl rfl rfl rfl Try.underlying9 ?_
    | (refine Plan.ints rfl rfl rfl rfl rfl rfl ?_; (first | refine Plan.int (i64u8 _) ?_ | refine Plan.int (i64r (by omega)) ?_ | refine Plan.int (u64r (by omega)) ?_ | refine Plan.int (u8r (by omega)) ?_ | refine Plan.int (u16r (by omega)) ?_ | refine Plan.int (quoN (by omega)) ?_ | refine Plan.int (remN _ _) ?_ | refine Plan.int (u8N _) ?_ | skip))
    | refine Plan.un rfl rfl rfl rfl rfl ?_
    | refine Plan.lenB rfl rfl rfl rfl (by first | exact Sub.refl _ | exact Sub.own | exact Sub.old (fun _ h => h) | exact Sub.oldOwn (fun _ h => h) | exact Sub.nilRow | exact Sub.ownLower hB | exact Sub.nilOwn (fun _ h => Nat.le_trans hB h.size)) Try.underlying27 ?_
    | (refine Plan.convInt rfl rfl rfl rfl (by first | exact Try.underlying2 | exact Try.underlying3 | exact Try.underlying5 | exact Try.underlying21 | exact Try.underlying25 | exact Try.underlying33 | exact Try.underlying53 | exact Try.underlying89) (by first | exact Try.underlying2 | exact Try.underlying3 | exact Try.underlying5 | exact Try.underlying21 | exact Try.underlying25 | exact Try.underlying33 | exact Try.underlying53 | exact Try.underlying89) ?_; (first | refine Plan.int (i64u8 _) ?_ | refine Plan.int (i64r (by omega)) ?_ | refine Plan.int (u64r (by omega)) ?_ | refine Plan.int (u8r (by omega)) ?_ | refine Plan.int (u16r (by omega)) ?_ | refine Plan.int (quoN (by omega)) ?_ | refine Plan.int (remN _ _) ?_ | refine Plan.int (u8N _) ?_ | skip))
    | refine J.seq (J.region mixed hI (by kernel_rfl) ?_)
    | refine J.region mixed hI (by kernel_rfl) ?_
    | refine J.seq (J.seq (J.region mixed hI (by kernel_rfl) ?_))
    | refine J.condF rfl ?_
    | refine J.condT rfl ?_
    | refine J.skip ?_)
  refine Plan.eqT (by rw [hg]) ?_
  repeat (first
    | refine Plan.move rfl rfl rfl rfl ?_
    | refine Plan.assign rfl rfl rfl rfl ?_
    | refine Plan.skip rfl rfl ?_
    | refine Plan.extract rfl rfl rfl rfl rfl ?_
    | refine Plan.pick rfl rfl rfl rfl rfl ?_
    | refine Plan.lenStr rfl rfl rfl rfl Try.underlying9 ?_
    | (refine Plan.ints rfl rfl rfl rfl rfl rfl ?_; (first | refine Plan.int (i64u8 _) ?_ | refine Plan.int (i64r (by omega)) ?_ | refine Plan.int (u64r (by omega)) ?_ | refine Plan.int (u8r (by omega)) ?_ | refine Plan.int (u16r (by omega)) ?_ | refine Plan.int (quoN (by omega)) ?_ | refine Plan.int (remN _ _) ?_ | refine Plan.int (u8N _) ?_ | skip))
    | refine Plan.un rfl rfl rfl rfl rfl ?_
    | refine Plan.lenB rfl rfl rfl rfl (by first | exact Sub.refl _ | exact Sub.own | exact Sub.old (fun _ h => h) | exact Sub.oldOwn (fun _ h => h) | exact Sub.nilRow | exact Sub.ownLower hB | exact Sub.nilOwn (fun _ h => Nat.le_trans hB h.size)) Try.underlying27 ?_
    | (refine Plan.convInt rfl rfl rfl rfl (by first | exact Try.underlying2 | exact Try.underlying3 | exact Try.underlying5 | exact Try.underlying21 | exact Try.underlying25 | exact Try.underlying33 | exact Try.underlying53 | exact Try.underlying89) (by first | exact Try.underlying2 | exact Try.underlying3 | exact Try.underlying5 | exact Try.underlying21 | exact Try.underlying25 | exact Try.underlying33 | exact Try.underlying53 | exact Try.underlying89) ?_; (first | refine Plan.int (i64u8 _) ?_ | refine Plan.int (i64r (by omega)) ?_ | refine Plan.int (u64r (by omega)) ?_ | refine Plan.int (u8r (by omega)) ?_ | refine Plan.int (u16r (by omega)) ?_ | refine Plan.int (quoN (by omega)) ?_ | refine Plan.int (remN _ _) ?_ | refine Plan.int (u8N _) ?_ | skip))
    | refine J.seq (J.region mixed hI (by kernel_rfl) ?_)
    | refine J.region mixed hI (by kernel_rfl) ?_
    | refine J.seq (J.seq (J.region mixed hI (by kernel_rfl) ?_))
    | refine J.condF rfl ?_
    | refine J.condT rfl ?_
    | refine J.skip ?_)
  exact J.ret (Nrm.ret1 rfl (fun _ h => h) rfl fun B _ => Sub.refl _)
end Go.Proofs.Ytdfdhhepbkejpaa
