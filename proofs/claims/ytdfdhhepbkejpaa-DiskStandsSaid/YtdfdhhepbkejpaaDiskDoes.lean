/-
  The scripts of the laws on disks: what a call does, and whether a script is small.
-/
import Derived.Test.YtdfdhhepbkejpaaDiskParts
import Derived.Test.YtdfdhhepbkejpaaFreePtr
namespace Go.Proofs.Ytdfdhhepbkejpaa
open Go.Free Go.RowKit Go.Proofs
set_option maxHeartbeats 2000000

structure OpV where
  kind : Int
  n : Int
  at_ : Int
  turn : Int
  b : List UInt8
def OpV.enc (o : OpV) : List Value := [.int .i64 o.kind, .int .i64 o.n, .int .i64 o.at_, .int .i64 o.turn, str o.b]
def in64 (x : Int) : Prop := -9223372036854775808 ≤ x ∧ x ≤ 9223372036854775807
def OpV.okV (o : OpV) : Prop := in64 o.kind ∧ in64 o.n ∧ in64 o.at_ ∧ in64 o.turn ∧ o.b.length ≤ 9223372036854775807
abbrev opsF (sc : List OpV) : Fa := row 5 (sc.flatMap OpV.enc)
theorem eltO : Elt Try.prog 60 67 (.agg #[.int .i64 0, .int .i64 0, .int .i64 0, .int .i64 0, str []]) 5 48 := Elt.mk' Try.underlying60 (by kernel_rfl) rfl (by decide) (by decide)
theorem encO (x : OpV) : x.enc.length = 5 := rfl
def small (sc : List OpV) : Bool := decide (sc.length ≤ 200) && sc.all fun o => decide (o.b.length ≤ 70000)
def dv0 : OpV := ⟨0, 0, 0, 0, []⟩

theorem few_fn (sc : List OpV) (hl : sc.length ≤ 9223372036854775807) : Spc Try.prog 33 [opsF sc] fun _ => .ex (.bool (small sc)) := by
  refine Spc.intro Try.func33 rfl (Nat.le_of_ble_eq_true rfl) fun w0 => ?_
  have hI := hIb w0
  repeat (first
    | refine Plan.move rfl rfl rfl rfl ?_
    | refine Plan.assign rfl rfl rfl rfl ?_
    | refine Plan.skip rfl rfl ?_
    | refine Plan.extract rfl rfl rfl rfl rfl ?_
    | refine Plan.pick rfl rfl rfl rfl rfl ?_
    | refine Plan.lenStr rfl rfl rfl rfl Try.underlying9 ?_
    | (refine Plan.ints rfl rfl rfl rfl rfl rfl ?_; (first | refine Plan.int (i64u8 _) ?_ | refine Plan.int (i64r (by omega)) ?_ | refine Plan.int (u64r (by omega)) ?_ | refine Plan.int (u8r (by omega)) ?_ | refine Plan.int (u16r (by omega)) ?_ | refine Plan.int (quoN (by omega)) ?_ | refine Plan.int (remN _ _) ?_ | refine Plan.int (u8N _) ?_ | skip))
    | refine Plan.un rfl rfl rfl rfl rfl ?_
    | refine Plan.lenB rfl rfl rfl rfl (by first | exact Sub.refl _ | exact Sub.own | exact Sub.old (fun _ h => h) | exact Sub.oldOwn (fun _ h => h) | exact Sub.nilRow | exact Sub.ownLower hB | exact Sub.nilOwn (fun _ h => Nat.le_trans hB h.size)) Try.underlying27 ?_
    | (refine Plan.convInt rfl rfl rfl rfl (by first | exact Try.underlying2 | exact Try.underlying3 | exact Try.underlying5 | exact Try.underlying21 | exact Try.underlying25 | exact Try.underlying33 | exact Try.underlying53 | exact Try.underlying89) (by first | exact Try.underlying2 | exact Try.underlying3 | exact Try.underlying5 | exact Try.underlying21 | exact Try.underlying25 | exact Try.underlying33 | exact Try.underlying53 | exact Try.underlying89) ?_; (first | refine Plan.int (i64u8 _) ?_ | refine Plan.int (i64r (by omega)) ?_ | refine Plan.int (u64r (by omega)) ?_ | refine Plan.int (u8r (by omega)) ?_ | refine Plan.int (u16r (by omega)) ?_ | refine Plan.int (quoN (by omega)) ?_ | refine Plan.int (remN _ _) ?_ | refine Plan.int (u8N _) ?_ | skip))
    | refine J.seq (J.region mixed hI (by kernel_rfl) ?_)
    | refine J.region mixed hI (by kernel_rfl) ?_
    | refine J.seq (J.seq (J.region mixed hI (by kernel_rfl) ?_))
    | refine J.condF rfl ?_
    | refine J.condT rfl ?_
    | refine J.skip ?_)
  refine Plan.lenRow (m := sc.length) rfl rfl rfl rfl (Sub.old fun _ h => h) Try.underlying60 (by rw [flatMap_length _ 5 encO]) (by decide) ?_
  repeat (first
    | refine Plan.move rfl rfl rfl rfl ?_
    | refine Plan.assign rfl rfl rfl rfl ?_
    | refine Plan.skip rfl rfl ?_
    | refine Plan.extract rfl rfl rfl rfl rfl ?_
    | refine Plan.pick rfl rfl rfl rfl rfl ?_
    | refine Plan.lenStr rfl rfl rfl rfl Try.underlying9 ?_
    | (refine Plan.ints rfl rfl rfl rfl rfl rfl ?_; (first | refine Plan.int (i64u8 _) ?_ | refine Plan.int (i64r (by omega)) ?_ | refine Plan.int (u64r (by omega)) ?_ | refine Plan.int (u8r (by omega)) ?_ | refine Plan.int (u16r (by omega)) ?_ | refine Plan.int (quoN (by omega)) ?_ | refine Plan.int (remN _ _) ?_ | refine Plan.int (u8N _) ?_ | skip))
    | refine Plan.un rfl rfl rfl rfl rfl ?_
    | refine Plan.lenB rfl rfl rfl rfl (by first | exact Sub.refl _ | exact Sub.own | exact Sub.old (fun _ h => h) | exact Sub.oldOwn (fun _ h => h) | exact Sub.nilRow | exact Sub.ownLower hB | exact Sub.nilOwn (fun _ h => Nat.le_trans hB h.size)) Try.underlying27 ?_
    | (refine Plan.convInt rfl rfl rfl rfl (by first | exact Try.underlying2 | exact Try.underlying3 | exact Try.underlying5 | exact Try.underlying21 | exact Try.underlying25 | exact Try.underlying33 | exact Try.underlying53 | exact Try.underlying89) (by first | exact Try.underlying2 | exact Try.underlying3 | exact Try.underlying5 | exact Try.underlying21 | exact Try.underlying25 | exact Try.underlying33 | exact Try.underlying53 | exact Try.underlying89) ?_; (first | refine Plan.int (i64u8 _) ?_ | refine Plan.int (i64r (by omega)) ?_ | refine Plan.int (u64r (by omega)) ?_ | refine Plan.int (u8r (by omega)) ?_ | refine Plan.int (u16r (by omega)) ?_ | refine Plan.int (quoN (by omega)) ?_ | refine Plan.int (remN _ _) ?_ | refine Plan.int (u8N _) ?_ | skip))
    | refine J.seq (J.region mixed hI (by kernel_rfl) ?_)
    | refine J.region mixed hI (by kernel_rfl) ?_
    | refine J.seq (J.seq (J.region mixed hI (by kernel_rfl) ?_))
    | refine J.condF rfl ?_
    | refine J.condT rfl ?_
    | refine J.skip ?_)
  refine J.condD rfl (fun h => ?_) (fun h => ?_)
  · have hs : small sc = false := by unfold small; rw [decide_eq_false (by omega)]; rfl
    rw [hs]
    repeat (first
    | refine Plan.move rfl rfl rfl rfl ?_
    | refine Plan.assign rfl rfl rfl rfl ?_
    | refine Plan.skip rfl rfl ?_
    | refine Plan.extract rfl rfl rfl rfl rfl ?_
    | refine Plan.pick rfl rfl rfl rfl rfl ?_
    | refine Plan.lenStr rfl rfl rfl rfl Try.underlying9 ?_
    | (refine Plan.ints rfl rfl rfl rfl rfl rfl ?_; (first | refine Plan.int (i64u8 _) ?_ | refine Plan.int (i64r (by omega)) ?_ | refine Plan.int (u64r (by omega)) ?_ | refine Plan.int (u8r (by omega)) ?_ | refine Plan.int (u16r (by omega)) ?_ | refine Plan.int (quoN (by omega)) ?_ | refine Plan.int (remN _ _) ?_ | refine Plan.int (u8N _) ?_ | skip))
    | refine Plan.un rfl rfl rfl rfl rfl ?_
    | refine Plan.lenB rfl rfl rfl rfl (by first | exact Sub.refl _ | exact Sub.own | exact Sub.old (fun _ h => h) | exact Sub.oldOwn (fun _ h => h) | exact Sub.nilRow | exact Sub.ownLower hB | exact Sub.nilOwn (fun _ h => Nat.le_trans hB h.size)) Try.underlying27 ?_
    | (refine Plan.convInt rfl rfl rfl rfl (by first | exact Try.underlying2 | exact Try.underlying3 | exact Try.underlying5 | exact Try.underlying21 | exact Try.underlying25 | exact Try.underlying33 | exact Try.underlying53 | exact Try.underlying89) (by first | exact Try.underlying2 | exact Try.underlying3 | exact Try.underlying5 | exact Try.underlying21 | exact Try.underlying25 | exact Try.underlying33 | exact Try.underlying53 | exact Try.underlying89) ?_; (first | refine Plan.int (i64u8 _) ?_ | refine Plan.int (i64r (by omega)) ?_ | refine Plan.int (u64r (by omega)) ?_ | refine Plan.int (u8r (by omega)) ?_ | refine Plan.int (u16r (by omega)) ?_ | refine Plan.int (quoN (by omega)) ?_ | refine Plan.int (remN _ _) ?_ | refine Plan.int (u8N _) ?_ | skip))
    | refine J.seq (J.region mixed hI (by kernel_rfl) ?_)
    | refine J.region mixed hI (by kernel_rfl) ?_
    | refine J.seq (J.seq (J.region mixed hI (by kernel_rfl) ?_))
    | refine J.condF rfl ?_
    | refine J.condT rfl ?_
    | refine J.skip ?_)
    exact J.ret (Nrm.ret1 rfl (fun _ h => h) rfl fun B _ => Sub.refl _)
  repeat (first
    | refine Plan.move rfl rfl rfl rfl ?_
    | refine Plan.assign rfl rfl rfl rfl ?_
    | refine Plan.skip rfl rfl ?_
    | refine Plan.extract rfl rfl rfl rfl rfl ?_
    | refine Plan.pick rfl rfl rfl rfl rfl ?_
    | refine Plan.lenStr rfl rfl rfl rfl Try.underlying9 ?_
    | (refine Plan.ints rfl rfl rfl rfl rfl rfl ?_; (first | refine Plan.int (i64u8 _) ?_ | refine Plan.int (i64r (by omega)) ?_ | refine Plan.int (u64r (by omega)) ?_ | refine Plan.int (u8r (by omega)) ?_ | refine Plan.int (u16r (by omega)) ?_ | refine Plan.int (quoN (by omega)) ?_ | refine Plan.int (remN _ _) ?_ | refine Plan.int (u8N _) ?_ | skip))
    | refine Plan.un rfl rfl rfl rfl rfl ?_
    | refine Plan.lenB rfl rfl rfl rfl (by first | exact Sub.refl _ | exact Sub.own | exact Sub.old (fun _ h => h) | exact Sub.oldOwn (fun _ h => h) | exact Sub.nilRow | exact Sub.ownLower hB | exact Sub.nilOwn (fun _ h => Nat.le_trans hB h.size)) Try.underlying27 ?_
    | (refine Plan.convInt rfl rfl rfl rfl (by first | exact Try.underlying2 | exact Try.underlying3 | exact Try.underlying5 | exact Try.underlying21 | exact Try.underlying25 | exact Try.underlying33 | exact Try.underlying53 | exact Try.underlying89) (by first | exact Try.underlying2 | exact Try.underlying3 | exact Try.underlying5 | exact Try.underlying21 | exact Try.underlying25 | exact Try.underlying33 | exact Try.underlying53 | exact Try.underlying89) ?_; (first | refine Plan.int (i64u8 _) ?_ | refine Plan.int (i64r (by omega)) ?_ | refine Plan.int (u64r (by omega)) ?_ | refine Plan.int (u8r (by omega)) ?_ | refine Plan.int (u16r (by omega)) ?_ | refine Plan.int (quoN (by omega)) ?_ | refine Plan.int (remN _ _) ?_ | refine Plan.int (u8N _) ?_ | skip))
    | refine J.seq (J.region mixed hI (by kernel_rfl) ?_)
    | refine J.region mixed hI (by kernel_rfl) ?_
    | refine J.seq (J.seq (J.region mixed hI (by kernel_rfl) ?_))
    | refine J.condF rfl ?_
    | refine J.condT rfl ?_
    | refine J.skip ?_)
  refine Plan.lenRow (m := sc.length) rfl rfl rfl rfl (Sub.old fun _ h => h) Try.underlying60 (by rw [flatMap_length _ 5 encO]) (by decide) ?_
  repeat (first
    | refine Plan.move rfl rfl rfl rfl ?_
    | refine Plan.assign rfl rfl rfl rfl ?_
    | refine Plan.skip rfl rfl ?_
    | refine Plan.extract rfl rfl rfl rfl rfl ?_
    | refine Plan.pick rfl rfl rfl rfl rfl ?_
    | refine Plan.lenStr rfl rfl rfl rfl Try.underlying9 ?_
    | (refine Plan.ints rfl rfl rfl rfl rfl rfl ?_; (first | refine Plan.int (i64u8 _) ?_ | refine Plan.int (i64r (by omega)) ?_ | refine Plan.int (u64r (by omega)) ?_ | refine Plan.int (u8r (by omega)) ?_ | refine Plan.int (u16r (by omega)) ?_ | refine Plan.int (quoN (by omega)) ?_ | refine Plan.int (remN _ _) ?_ | refine Plan.int (u8N _) ?_ | skip))
    | refine Plan.un rfl rfl rfl rfl rfl ?_
    | refine Plan.lenB rfl rfl rfl rfl (by first | exact Sub.refl _ | exact Sub.own | exact Sub.old (fun _ h => h) | exact Sub.oldOwn (fun _ h => h) | exact Sub.nilRow | exact Sub.ownLower hB | exact Sub.nilOwn (fun _ h => Nat.le_trans hB h.size)) Try.underlying27 ?_
    | (refine Plan.convInt rfl rfl rfl rfl (by first | exact Try.underlying2 | exact Try.underlying3 | exact Try.underlying5 | exact Try.underlying21 | exact Try.underlying25 | exact Try.underlying33 | exact Try.underlying53 | exact Try.underlying89) (by first | exact Try.underlying2 | exact Try.underlying3 | exact Try.underlying5 | exact Try.underlying21 | exact Try.underlying25 | exact Try.underlying33 | exact Try.underlying53 | exact Try.underlying89) ?_; (first | refine Plan.int (i64u8 _) ?_ | refine Plan.int (i64r (by omega)) ?_ | refine Plan.int (u64r (by omega)) ?_ | refine Plan.int (u8r (by omega)) ?_ | refine Plan.int (u16r (by omega)) ?_ | refine Plan.int (quoN (by omega)) ?_ | refine Plan.int (remN _ _) ?_ | refine Plan.int (u8N _) ?_ | skip))
    | refine J.seq (J.region mixed hI (by kernel_rfl) ?_)
    | refine J.region mixed hI (by kernel_rfl) ?_
    | refine J.seq (J.seq (J.region mixed hI (by kernel_rfl) ?_))
    | refine J.condF rfl ?_
    | refine J.condT rfl ?_
    | refine J.skip ?_)
  repeat (first
    | refine Plan.move rfl rfl rfl rfl ?_
    | refine Plan.assign rfl rfl rfl rfl ?_
    | refine Plan.skip rfl rfl ?_
    | refine Plan.extract rfl rfl rfl rfl rfl ?_
    | refine Plan.pick rfl rfl rfl rfl rfl ?_
    | refine Plan.lenStr rfl rfl rfl rfl Try.underlying9 ?_
    | (refine Plan.ints rfl rfl rfl rfl rfl rfl ?_; (first | refine Plan.int (i64u8 _) ?_ | refine Plan.int (i64r (by omega)) ?_ | refine Plan.int (u64r (by omega)) ?_ | refine Plan.int (u8r (by omega)) ?_ | refine Plan.int (u16r (by omega)) ?_ | refine Plan.int (quoN (by omega)) ?_ | refine Plan.int (remN _ _) ?_ | refine Plan.int (u8N _) ?_ | skip))
    | refine Plan.un rfl rfl rfl rfl rfl ?_
    | refine Plan.lenB rfl rfl rfl rfl (by first | exact Sub.refl _ | exact Sub.own | exact Sub.old (fun _ h => h) | exact Sub.oldOwn (fun _ h => h) | exact Sub.nilRow | exact Sub.ownLower hB | exact Sub.nilOwn (fun _ h => Nat.le_trans hB h.size)) Try.underlying27 ?_
    | (refine Plan.convInt rfl rfl rfl rfl (by first | exact Try.underlying2 | exact Try.underlying3 | exact Try.underlying5 | exact Try.underlying21 | exact Try.underlying25 | exact Try.underlying33 | exact Try.underlying53 | exact Try.underlying89) (by first | exact Try.underlying2 | exact Try.underlying3 | exact Try.underlying5 | exact Try.underlying21 | exact Try.underlying25 | exact Try.underlying33 | exact Try.underlying53 | exact Try.underlying89) ?_; (first | refine Plan.int (i64u8 _) ?_ | refine Plan.int (i64r (by omega)) ?_ | refine Plan.int (u64r (by omega)) ?_ | refine Plan.int (u8r (by omega)) ?_ | refine Plan.int (u16r (by omega)) ?_ | refine Plan.int (quoN (by omega)) ?_ | refine Plan.int (remN _ _) ?_ | refine Plan.int (u8N _) ?_ | skip))
    | refine J.seq (J.region mixed hI (by kernel_rfl) ?_)
    | refine J.region mixed hI (by kernel_rfl) ?_
    | refine J.seq (J.seq (J.region mixed hI (by kernel_rfl) ?_))
    | refine J.condF rfl ?_
    | refine J.condT rfl ?_
    | refine J.skip ?_)
  refine J.block (J.loop (fun i : Nat => [(0, old w0 (opsF sc)), (8, .ex (.int .i64 sc.length)), (9, .ex (.int .i64 i))]) (fun i => i ≤ sc.length ∧ (sc.take i).all (fun o => decide (o.b.length ≤ 70000)) = true) (fun i => sc.length - i) 0 ⟨Nat.zero_le _, rfl⟩ ?_ ?_)
  · repeat (first | exact Weak.nil | refine Weak.cons rfl (Sub.refl _) ?_)
  rintro i ⟨hi, hall⟩
  repeat (first
    | refine Plan.move rfl rfl rfl rfl ?_
    | refine Plan.assign rfl rfl rfl rfl ?_
    | refine Plan.skip rfl rfl ?_
    | refine Plan.extract rfl rfl rfl rfl rfl ?_
    | refine Plan.pick rfl rfl rfl rfl rfl ?_
    | refine Plan.lenStr rfl rfl rfl rfl Try.underlying9 ?_
    | (refine Plan.ints rfl rfl rfl rfl rfl rfl ?_; (first | refine Plan.int (i64u8 _) ?_ | refine Plan.int (i64r (by omega)) ?_ | refine Plan.int (u64r (by omega)) ?_ | refine Plan.int (u8r (by omega)) ?_ | refine Plan.int (u16r (by omega)) ?_ | refine Plan.int (quoN (by omega)) ?_ | refine Plan.int (remN _ _) ?_ | refine Plan.int (u8N _) ?_ | skip))
    | refine Plan.un rfl rfl rfl rfl rfl ?_
    | refine Plan.lenB rfl rfl rfl rfl (by first | exact Sub.refl _ | exact Sub.own | exact Sub.old (fun _ h => h) | exact Sub.oldOwn (fun _ h => h) | exact Sub.nilRow | exact Sub.ownLower hB | exact Sub.nilOwn (fun _ h => Nat.le_trans hB h.size)) Try.underlying27 ?_
    | (refine Plan.convInt rfl rfl rfl rfl (by first | exact Try.underlying2 | exact Try.underlying3 | exact Try.underlying5 | exact Try.underlying21 | exact Try.underlying25 | exact Try.underlying33 | exact Try.underlying53 | exact Try.underlying89) (by first | exact Try.underlying2 | exact Try.underlying3 | exact Try.underlying5 | exact Try.underlying21 | exact Try.underlying25 | exact Try.underlying33 | exact Try.underlying53 | exact Try.underlying89) ?_; (first | refine Plan.int (i64u8 _) ?_ | refine Plan.int (i64r (by omega)) ?_ | refine Plan.int (u64r (by omega)) ?_ | refine Plan.int (u8r (by omega)) ?_ | refine Plan.int (u16r (by omega)) ?_ | refine Plan.int (quoN (by omega)) ?_ | refine Plan.int (remN _ _) ?_ | refine Plan.int (u8N _) ?_ | skip))
    | refine J.seq (J.region mixed hI (by kernel_rfl) ?_)
    | refine J.region mixed hI (by kernel_rfl) ?_
    | refine J.seq (J.seq (J.region mixed hI (by kernel_rfl) ?_))
    | refine J.condF rfl ?_
    | refine J.condT rfl ?_
    | refine J.skip ?_)
  refine J.seq (J.condD rfl (fun hlt => ?_) (fun hlt => ?_))
  · have hlt' : i < sc.length := by omega
    have hget : sc.getD i dv0 = sc[i] := by simp [List.getD_eq_getElem?_getD, List.getElem?_eq_getElem hlt']
    repeat (first
    | refine Plan.move rfl rfl rfl rfl ?_
    | refine Plan.assign rfl rfl rfl rfl ?_
    | refine Plan.skip rfl rfl ?_
    | refine Plan.extract rfl rfl rfl rfl rfl ?_
    | refine Plan.pick rfl rfl rfl rfl rfl ?_
    | refine Plan.lenStr rfl rfl rfl rfl Try.underlying9 ?_
    | (refine Plan.ints rfl rfl rfl rfl rfl rfl ?_; (first | refine Plan.int (i64u8 _) ?_ | refine Plan.int (i64r (by omega)) ?_ | refine Plan.int (u64r (by omega)) ?_ | refine Plan.int (u8r (by omega)) ?_ | refine Plan.int (u16r (by omega)) ?_ | refine Plan.int (quoN (by omega)) ?_ | refine Plan.int (remN _ _) ?_ | refine Plan.int (u8N _) ?_ | skip))
    | refine Plan.un rfl rfl rfl rfl rfl ?_
    | refine Plan.lenB rfl rfl rfl rfl (by first | exact Sub.refl _ | exact Sub.own | exact Sub.old (fun _ h => h) | exact Sub.oldOwn (fun _ h => h) | exact Sub.nilRow | exact Sub.ownLower hB | exact Sub.nilOwn (fun _ h => Nat.le_trans hB h.size)) Try.underlying27 ?_
    | (refine Plan.convInt rfl rfl rfl rfl (by first | exact Try.underlying2 | exact Try.underlying3 | exact Try.underlying5 | exact Try.underlying21 | exact Try.underlying25 | exact Try.underlying33 | exact Try.underlying53 | exact Try.underlying89) (by first | exact Try.underlying2 | exact Try.underlying3 | exact Try.underlying5 | exact Try.underlying21 | exact Try.underlying25 | exact Try.underlying33 | exact Try.underlying53 | exact Try.underlying89) ?_; (first | refine Plan.int (i64u8 _) ?_ | refine Plan.int (i64r (by omega)) ?_ | refine Plan.int (u64r (by omega)) ?_ | refine Plan.int (u8r (by omega)) ?_ | refine Plan.int (u16r (by omega)) ?_ | refine Plan.int (quoN (by omega)) ?_ | refine Plan.int (remN _ _) ?_ | refine Plan.int (u8N _) ?_ | skip))
    | refine J.seq (J.region mixed hI (by kernel_rfl) ?_)
    | refine J.region mixed hI (by kernel_rfl) ?_
    | refine J.seq (J.seq (J.region mixed hI (by kernel_rfl) ?_))
    | refine J.condF rfl ?_
    | refine J.condT rfl ?_
    | refine J.skip ?_)
    refine J.seq (J.block ?_)
    repeat (first
    | refine Plan.move rfl rfl rfl rfl ?_
    | refine Plan.assign rfl rfl rfl rfl ?_
    | refine Plan.skip rfl rfl ?_
    | refine Plan.extract rfl rfl rfl rfl rfl ?_
    | refine Plan.pick rfl rfl rfl rfl rfl ?_
    | refine Plan.lenStr rfl rfl rfl rfl Try.underlying9 ?_
    | (refine Plan.ints rfl rfl rfl rfl rfl rfl ?_; (first | refine Plan.int (i64u8 _) ?_ | refine Plan.int (i64r (by omega)) ?_ | refine Plan.int (u64r (by omega)) ?_ | refine Plan.int (u8r (by omega)) ?_ | refine Plan.int (u16r (by omega)) ?_ | refine Plan.int (quoN (by omega)) ?_ | refine Plan.int (remN _ _) ?_ | refine Plan.int (u8N _) ?_ | skip))
    | refine Plan.un rfl rfl rfl rfl rfl ?_
    | refine Plan.lenB rfl rfl rfl rfl (by first | exact Sub.refl _ | exact Sub.own | exact Sub.old (fun _ h => h) | exact Sub.oldOwn (fun _ h => h) | exact Sub.nilRow | exact Sub.ownLower hB | exact Sub.nilOwn (fun _ h => Nat.le_trans hB h.size)) Try.underlying27 ?_
    | (refine Plan.convInt rfl rfl rfl rfl (by first | exact Try.underlying2 | exact Try.underlying3 | exact Try.underlying5 | exact Try.underlying21 | exact Try.underlying25 | exact Try.underlying33 | exact Try.underlying53 | exact Try.underlying89) (by first | exact Try.underlying2 | exact Try.underlying3 | exact Try.underlying5 | exact Try.underlying21 | exact Try.underlying25 | exact Try.underlying33 | exact Try.underlying53 | exact Try.underlying89) ?_; (first | refine Plan.int (i64u8 _) ?_ | refine Plan.int (i64r (by omega)) ?_ | refine Plan.int (u64r (by omega)) ?_ | refine Plan.int (u8r (by omega)) ?_ | refine Plan.int (u16r (by omega)) ?_ | refine Plan.int (quoN (by omega)) ?_ | refine Plan.int (remN _ _) ?_ | refine Plan.int (u8N _) ?_ | skip))
    | refine J.seq (J.region mixed hI (by kernel_rfl) ?_)
    | refine J.region mixed hI (by kernel_rfl) ?_
    | refine J.seq (J.seq (J.region mixed hI (by kernel_rfl) ?_))
    | refine J.condF rfl ?_
    | refine J.condT rfl ?_
    | refine J.skip ?_)
    refine Plan.indexAddr OpV.enc 5 sc dv0 rfl rfl rfl rfl (Sub.old fun _ h => h) rfl eltO encO (by omega) (by omega) ?_
    rw [Int.toNat_natCast, hget]
    refine Plan.fieldPtr (us := [str sc[i].b]) rfl rfl rfl rfl (Sub.refl _) Try.underlying67 rfl (by kernel_rfl) rfl ?_
    refine Plan.load rfl rfl rfl rfl (Sub.refl _) Try.underlying9 rfl ?_
    repeat (first
    | refine Plan.move rfl rfl rfl rfl ?_
    | refine Plan.assign rfl rfl rfl rfl ?_
    | refine Plan.skip rfl rfl ?_
    | refine Plan.extract rfl rfl rfl rfl rfl ?_
    | refine Plan.pick rfl rfl rfl rfl rfl ?_
    | refine Plan.lenStr rfl rfl rfl rfl Try.underlying9 ?_
    | (refine Plan.ints rfl rfl rfl rfl rfl rfl ?_; (first | refine Plan.int (i64u8 _) ?_ | refine Plan.int (i64r (by omega)) ?_ | refine Plan.int (u64r (by omega)) ?_ | refine Plan.int (u8r (by omega)) ?_ | refine Plan.int (u16r (by omega)) ?_ | refine Plan.int (quoN (by omega)) ?_ | refine Plan.int (remN _ _) ?_ | refine Plan.int (u8N _) ?_ | skip))
    | refine Plan.un rfl rfl rfl rfl rfl ?_
    | refine Plan.lenB rfl rfl rfl rfl (by first | exact Sub.refl _ | exact Sub.own | exact Sub.old (fun _ h => h) | exact Sub.oldOwn (fun _ h => h) | exact Sub.nilRow | exact Sub.ownLower hB | exact Sub.nilOwn (fun _ h => Nat.le_trans hB h.size)) Try.underlying27 ?_
    | (refine Plan.convInt rfl rfl rfl rfl (by first | exact Try.underlying2 | exact Try.underlying3 | exact Try.underlying5 | exact Try.underlying21 | exact Try.underlying25 | exact Try.underlying33 | exact Try.underlying53 | exact Try.underlying89) (by first | exact Try.underlying2 | exact Try.underlying3 | exact Try.underlying5 | exact Try.underlying21 | exact Try.underlying25 | exact Try.underlying33 | exact Try.underlying53 | exact Try.underlying89) ?_; (first | refine Plan.int (i64u8 _) ?_ | refine Plan.int (i64r (by omega)) ?_ | refine Plan.int (u64r (by omega)) ?_ | refine Plan.int (u8r (by omega)) ?_ | refine Plan.int (u16r (by omega)) ?_ | refine Plan.int (quoN (by omega)) ?_ | refine Plan.int (remN _ _) ?_ | refine Plan.int (u8N _) ?_ | skip))
    | refine J.seq (J.region mixed hI (by kernel_rfl) ?_)
    | refine J.region mixed hI (by kernel_rfl) ?_
    | refine J.seq (J.seq (J.region mixed hI (by kernel_rfl) ?_))
    | refine J.condF rfl ?_
    | refine J.condT rfl ?_
    | refine J.skip ?_)
    refine J.condD rfl (fun h2 => ?_) (fun h2 => ?_)
    · have hs : small sc = false := by
        unfold small
        rw [Bool.and_eq_false_iff]
        right
        rw [← Bool.not_eq_true, List.all_eq_true]
        intro hh
        have := of_decide_eq_true (hh _ (List.getElem_mem hlt'))
        omega
      rw [hs]
      repeat (first
    | refine Plan.move rfl rfl rfl rfl ?_
    | refine Plan.assign rfl rfl rfl rfl ?_
    | refine Plan.skip rfl rfl ?_
    | refine Plan.extract rfl rfl rfl rfl rfl ?_
    | refine Plan.pick rfl rfl rfl rfl rfl ?_
    | refine Plan.lenStr rfl rfl rfl rfl Try.underlying9 ?_
    | (refine Plan.ints rfl rfl rfl rfl rfl rfl ?_; (first | refine Plan.int (i64u8 _) ?_ | refine Plan.int (i64r (by omega)) ?_ | refine Plan.int (u64r (by omega)) ?_ | refine Plan.int (u8r (by omega)) ?_ | refine Plan.int (u16r (by omega)) ?_ | refine Plan.int (quoN (by omega)) ?_ | refine Plan.int (remN _ _) ?_ | refine Plan.int (u8N _) ?_ | skip))
    | refine Plan.un rfl rfl rfl rfl rfl ?_
    | refine Plan.lenB rfl rfl rfl rfl (by first | exact Sub.refl _ | exact Sub.own | exact Sub.old (fun _ h => h) | exact Sub.oldOwn (fun _ h => h) | exact Sub.nilRow | exact Sub.ownLower hB | exact Sub.nilOwn (fun _ h => Nat.le_trans hB h.size)) Try.underlying27 ?_
    | (refine Plan.convInt rfl rfl rfl rfl (by first | exact Try.underlying2 | exact Try.underlying3 | exact Try.underlying5 | exact Try.underlying21 | exact Try.underlying25 | exact Try.underlying33 | exact Try.underlying53 | exact Try.underlying89) (by first | exact Try.underlying2 | exact Try.underlying3 | exact Try.underlying5 | exact Try.underlying21 | exact Try.underlying25 | exact Try.underlying33 | exact Try.underlying53 | exact Try.underlying89) ?_; (first | refine Plan.int (i64u8 _) ?_ | refine Plan.int (i64r (by omega)) ?_ | refine Plan.int (u64r (by omega)) ?_ | refine Plan.int (u8r (by omega)) ?_ | refine Plan.int (u16r (by omega)) ?_ | refine Plan.int (quoN (by omega)) ?_ | refine Plan.int (remN _ _) ?_ | refine Plan.int (u8N _) ?_ | skip))
    | refine J.seq (J.region mixed hI (by kernel_rfl) ?_)
    | refine J.region mixed hI (by kernel_rfl) ?_
    | refine J.seq (J.seq (J.region mixed hI (by kernel_rfl) ?_))
    | refine J.condF rfl ?_
    | refine J.condT rfl ?_
    | refine J.skip ?_)
      exact J.ret (Nrm.ret1 rfl (fun _ h => h) rfl fun B _ => Sub.refl _)
    · repeat (first
    | refine Plan.move rfl rfl rfl rfl ?_
    | refine Plan.assign rfl rfl rfl rfl ?_
    | refine Plan.skip rfl rfl ?_
    | refine Plan.extract rfl rfl rfl rfl rfl ?_
    | refine Plan.pick rfl rfl rfl rfl rfl ?_
    | refine Plan.lenStr rfl rfl rfl rfl Try.underlying9 ?_
    | (refine Plan.ints rfl rfl rfl rfl rfl rfl ?_; (first | refine Plan.int (i64u8 _) ?_ | refine Plan.int (i64r (by omega)) ?_ | refine Plan.int (u64r (by omega)) ?_ | refine Plan.int (u8r (by omega)) ?_ | refine Plan.int (u16r (by omega)) ?_ | refine Plan.int (quoN (by omega)) ?_ | refine Plan.int (remN _ _) ?_ | refine Plan.int (u8N _) ?_ | skip))
    | refine Plan.un rfl rfl rfl rfl rfl ?_
    | refine Plan.lenB rfl rfl rfl rfl (by first | exact Sub.refl _ | exact Sub.own | exact Sub.old (fun _ h => h) | exact Sub.oldOwn (fun _ h => h) | exact Sub.nilRow | exact Sub.ownLower hB | exact Sub.nilOwn (fun _ h => Nat.le_trans hB h.size)) Try.underlying27 ?_
    | (refine Plan.convInt rfl rfl rfl rfl (by first | exact Try.underlying2 | exact Try.underlying3 | exact Try.underlying5 | exact Try.underlying21 | exact Try.underlying25 | exact Try.underlying33 | exact Try.underlying53 | exact Try.underlying89) (by first | exact Try.underlying2 | exact Try.underlying3 | exact Try.underlying5 | exact Try.underlying21 | exact Try.underlying25 | exact Try.underlying33 | exact Try.underlying53 | exact Try.underlying89) ?_; (first | refine Plan.int (i64u8 _) ?_ | refine Plan.int (i64r (by omega)) ?_ | refine Plan.int (u64r (by omega)) ?_ | refine Plan.int (u8r (by omega)) ?_ | refine Plan.int (u16r (by omega)) ?_ | refine Plan.int (quoN (by omega)) ?_ | refine Plan.int (remN _ _) ?_ | refine Plan.int (u8N _) ?_ | skip))
    | refine J.seq (J.region mixed hI (by kernel_rfl) ?_)
    | refine J.region mixed hI (by kernel_rfl) ?_
    | refine J.seq (J.seq (J.region mixed hI (by kernel_rfl) ?_))
    | refine J.condF rfl ?_
    | refine J.condT rfl ?_
    | refine J.skip ?_)
      refine Plan.int (y := ((i + 1 : Nat) : Int)) (by omega) ?_
      refine Nrm.next (i + 1) ⟨hlt', ?_⟩ (by omega) (by repeat (first | exact Weak.nil | refine Weak.cons rfl (Sub.refl _) ?_))
      rw [List.take_succ_eq_append_getElem hlt', List.all_append, hall]
      simp; omega
  · have hie : i = sc.length := by omega
    subst hie
    have hs : small sc = true := by
      unfold small
      rw [List.take_length] at hall
      rw [hall, decide_eq_true (by omega)]; rfl
    rw [hs]
    refine J.exit ?_
    repeat (first
    | refine Plan.move rfl rfl rfl rfl ?_
    | refine Plan.assign rfl rfl rfl rfl ?_
    | refine Plan.skip rfl rfl ?_
    | refine Plan.extract rfl rfl rfl rfl rfl ?_
    | refine Plan.pick rfl rfl rfl rfl rfl ?_
    | refine Plan.lenStr rfl rfl rfl rfl Try.underlying9 ?_
    | (refine Plan.ints rfl rfl rfl rfl rfl rfl ?_; (first | refine Plan.int (i64u8 _) ?_ | refine Plan.int (i64r (by omega)) ?_ | refine Plan.int (u64r (by omega)) ?_ | refine Plan.int (u8r (by omega)) ?_ | refine Plan.int (u16r (by omega)) ?_ | refine Plan.int (quoN (by omega)) ?_ | refine Plan.int (remN _ _) ?_ | refine Plan.int (u8N _) ?_ | skip))
    | refine Plan.un rfl rfl rfl rfl rfl ?_
    | refine Plan.lenB rfl rfl rfl rfl (by first | exact Sub.refl _ | exact Sub.own | exact Sub.old (fun _ h => h) | exact Sub.oldOwn (fun _ h => h) | exact Sub.nilRow | exact Sub.ownLower hB | exact Sub.nilOwn (fun _ h => Nat.le_trans hB h.size)) Try.underlying27 ?_
    | (refine Plan.convInt rfl rfl rfl rfl (by first | exact Try.underlying2 | exact Try.underlying3 | exact Try.underlying5 | exact Try.underlying21 | exact Try.underlying25 | exact Try.underlying33 | exact Try.underlying53 | exact Try.underlying89) (by first | exact Try.underlying2 | exact Try.underlying3 | exact Try.underlying5 | exact Try.underlying21 | exact Try.underlying25 | exact Try.underlying33 | exact Try.underlying53 | exact Try.underlying89) ?_; (first | refine Plan.int (i64u8 _) ?_ | refine Plan.int (i64r (by omega)) ?_ | refine Plan.int (u64r (by omega)) ?_ | refine Plan.int (u8r (by omega)) ?_ | refine Plan.int (u16r (by omega)) ?_ | refine Plan.int (quoN (by omega)) ?_ | refine Plan.int (remN _ _) ?_ | refine Plan.int (u8N _) ?_ | skip))
    | refine J.seq (J.region mixed hI (by kernel_rfl) ?_)
    | refine J.region mixed hI (by kernel_rfl) ?_
    | refine J.seq (J.seq (J.region mixed hI (by kernel_rfl) ?_))
    | refine J.condF rfl ?_
    | refine J.condT rfl ?_
    | refine J.skip ?_)
    exact J.ret (Nrm.ret1 rfl (fun _ h => h) rfl fun B _ => Sub.refl _)

def dStep (o : OpV) (s : List UInt8 × Nat) (r : Nat) : (List UInt8 × Nat) × Int :=
  if o.kind = 1 then (if s.1.length + o.b.length ≤ r then ((s.1 ++ o.b, s.2), 0) else (s, 9))
  else if o.kind = 2 then ((s.1, s.1.length), 0)
  else if o.kind = 3 then (if o.b.length ≤ r then ((o.b, o.b.length), 0) else (s, 9))
  else if o.kind = 4 then (if 0 ≤ o.n ∧ o.n ≤ s.1.length then ((s.1.take o.n.toNat, o.n.toNat), 0) else (s, 1))
  else if o.kind = 5 then ((crashOf s.1 s.2 o.n o.at_ o.turn, (crashOf s.1 s.2 o.n o.at_ o.turn).length), 0)
  else (s, 0)
theorem crash_length (l : List UInt8) (f : Nat) (k a t : Int) (hf : f ≤ l.length) : (crashOf l f k a t).length = f + keptOf (l.length - f) k := by
  unfold crashOf
  have := kept_le (l.length - f) k
  rw [List.length_append, tail_length, List.length_take, List.length_take, List.length_drop]; omega
theorem dStep_ok (o : OpV) (s : List UInt8 × Nat) (r : Nat) (h : s.2 ≤ s.1.length ∧ s.1.length ≤ r) : (dStep o s r).1.2 ≤ (dStep o s r).1.1.length ∧ (dStep o s r).1.1.length ≤ r := by
  unfold dStep
  have hc := crash_length s.1 s.2 o.n o.at_ o.turn h.1
  have hk := kept_le (s.1.length - s.2) o.n
  repeat' split
  all_goals simp only [List.length_append, List.length_take]
  all_goals omega

theorem does_fn (o : OpV) (β : Nat) (l : List UInt8) (f r : Nat) (l' : List UInt8) (f' : Nat) (e' : Int) (ho : o.okV) (hb : o.b.length ≤ 70000) (h : f ≤ l.length ∧ l.length ≤ r) (hr : r ≤ 65536) (hd : dStep o (l, f) r = ((l', f'), e')) :
    SpcC Try.prog 35 [.ex (ptr β), .ex (.agg o.enc.toArray)] (diskC β l f r) (fun _ : Unit => True) (fun _ => .ex (.int .i64 e')) (fun _ => diskC β l' f' r) := by
  obtain ⟨h1, h2, h3, h4, h5⟩ := ho
  unfold in64 at h1 h2 h3 h4
  refine SpcC.intro Try.func35 rfl (Nat.le_of_ble_eq_true rfl) fun w0 F => ?_
  have hI := kept_below F w0
  have hA := Own.kept F w0
  repeat (first
    | refine Plan.move rfl rfl rfl rfl ?_
    | refine Plan.assign rfl rfl rfl rfl ?_
    | refine Plan.skip rfl rfl ?_
    | refine Plan.extract rfl rfl rfl rfl rfl ?_
    | refine Plan.pick rfl rfl rfl rfl rfl ?_
    | refine Plan.lenStr rfl rfl rfl rfl Try.underlying9 ?_
    | refine Plan.lenE rfl rfl rfl rfl Try.underlying27 ?_
    | (refine Plan.ints rfl rfl rfl rfl rfl rfl ?_; (first | refine Plan.int (i64u8 _) ?_ | refine Plan.int (i64r (by omega)) ?_ | refine Plan.int (u64r (by omega)) ?_ | refine Plan.int (u8r (by omega)) ?_ | refine Plan.int (u16r (by omega)) ?_ | refine Plan.int (quoN (by omega)) ?_ | refine Plan.int (remN _ _) ?_ | refine Plan.int (u8N _) ?_ | skip))
    | refine Plan.un rfl rfl rfl rfl rfl ?_
    | refine Plan.lenB rfl rfl rfl rfl (by first | exact Sub.refl _ | exact Sub.own | exact Sub.old (fun _ h => h) | exact Sub.oldOwn (fun _ h => h) | exact Sub.nilRow | exact Sub.ownLower hB | exact Sub.nilOwn (fun _ h => Nat.le_trans hB h.size)) Try.underlying27 ?_
    | (refine Plan.convInt rfl rfl rfl rfl (by first | exact Try.underlying2 | exact Try.underlying3 | exact Try.underlying5 | exact Try.underlying21 | exact Try.underlying25 | exact Try.underlying33 | exact Try.underlying53 | exact Try.underlying89) (by first | exact Try.underlying2 | exact Try.underlying3 | exact Try.underlying5 | exact Try.underlying21 | exact Try.underlying25 | exact Try.underlying33 | exact Try.underlying53 | exact Try.underlying89) ?_; (first | refine Plan.int (i64u8 _) ?_ | refine Plan.int (i64r (by omega)) ?_ | refine Plan.int (u64r (by omega)) ?_ | refine Plan.int (u8r (by omega)) ?_ | refine Plan.int (u16r (by omega)) ?_ | refine Plan.int (quoN (by omega)) ?_ | refine Plan.int (remN _ _) ?_ | refine Plan.int (u8N _) ?_ | skip))
    | refine Plan.nilOk rfl rfl rfl rfl ?_
    | refine Plan.fieldC rfl rfl rfl rfl (by first | exact Try.underlying65 | exact Try.underlying67 | exact Try.underlying73) rfl (by kernel_rfl) (by first | exact (rfl : _ = 0) | exact (rfl : _ = 1) | exact (rfl : _ = 2) | exact (rfl : _ = 3) | exact (rfl : _ = 4) | exact (rfl : _ = 5)) ?_
    | refine Plan.loadC (key := 1000) (q := 0) rfl rfl rfl rfl rfl rfl (obj_reads1 rfl) (by first | exact Try.underlying3 | exact Try.underlying9 | exact Try.underlying27 | exact Try.underlying4 | exact Try.underlying5 | exact Try.underlying33 | exact Try.underlying25 | exact Try.underlying23) (by rfl) (by decide) ?_
    | refine Plan.loadC (key := 1000) (q := 1) rfl rfl rfl rfl rfl rfl (obj_reads1 rfl) (by first | exact Try.underlying3 | exact Try.underlying9 | exact Try.underlying27 | exact Try.underlying4 | exact Try.underlying5 | exact Try.underlying33 | exact Try.underlying25 | exact Try.underlying23) (by rfl) (by decide) ?_
    | refine Plan.loadC (key := 1000) (q := 2) rfl rfl rfl rfl rfl rfl (obj_reads1 rfl) (by first | exact Try.underlying3 | exact Try.underlying9 | exact Try.underlying27 | exact Try.underlying4 | exact Try.underlying5 | exact Try.underlying33 | exact Try.underlying25 | exact Try.underlying23) (by rfl) (by decide) ?_
    | refine Plan.eqlPtr rfl rfl rfl rfl (by kernel_rfl) ?_
    | refine Plan.neqPtr rfl rfl rfl rfl (by kernel_rfl) ?_
    | refine J.seq (J.region mixed hI (by kernel_rfl) ?_)
    | refine J.region mixed hI (by kernel_rfl) ?_
    | refine J.seq (J.seq (J.region mixed hI (by kernel_rfl) ?_))
    | refine J.condF rfl ?_
    | refine J.condT rfl ?_
    | refine J.skip ?_)
  refine Plan.boxC (key := 1000) rfl rfl rfl (by intro _ e; cases e; decide) rfl rfl hA fun β' => ?_
  repeat (first
    | refine Plan.move rfl rfl rfl rfl ?_
    | refine Plan.assign rfl rfl rfl rfl ?_
    | refine Plan.skip rfl rfl ?_
    | refine Plan.extract rfl rfl rfl rfl rfl ?_
    | refine Plan.pick rfl rfl rfl rfl rfl ?_
    | refine Plan.lenStr rfl rfl rfl rfl Try.underlying9 ?_
    | refine Plan.lenE rfl rfl rfl rfl Try.underlying27 ?_
    | (refine Plan.ints rfl rfl rfl rfl rfl rfl ?_; (first | refine Plan.int (i64u8 _) ?_ | refine Plan.int (i64r (by omega)) ?_ | refine Plan.int (u64r (by omega)) ?_ | refine Plan.int (u8r (by omega)) ?_ | refine Plan.int (u16r (by omega)) ?_ | refine Plan.int (quoN (by omega)) ?_ | refine Plan.int (remN _ _) ?_ | refine Plan.int (u8N _) ?_ | skip))
    | refine Plan.un rfl rfl rfl rfl rfl ?_
    | refine Plan.lenB rfl rfl rfl rfl (by first | exact Sub.refl _ | exact Sub.own | exact Sub.old (fun _ h => h) | exact Sub.oldOwn (fun _ h => h) | exact Sub.nilRow | exact Sub.ownLower hB | exact Sub.nilOwn (fun _ h => Nat.le_trans hB h.size)) Try.underlying27 ?_
    | (refine Plan.convInt rfl rfl rfl rfl (by first | exact Try.underlying2 | exact Try.underlying3 | exact Try.underlying5 | exact Try.underlying21 | exact Try.underlying25 | exact Try.underlying33 | exact Try.underlying53 | exact Try.underlying89) (by first | exact Try.underlying2 | exact Try.underlying3 | exact Try.underlying5 | exact Try.underlying21 | exact Try.underlying25 | exact Try.underlying33 | exact Try.underlying53 | exact Try.underlying89) ?_; (first | refine Plan.int (i64u8 _) ?_ | refine Plan.int (i64r (by omega)) ?_ | refine Plan.int (u64r (by omega)) ?_ | refine Plan.int (u8r (by omega)) ?_ | refine Plan.int (u16r (by omega)) ?_ | refine Plan.int (quoN (by omega)) ?_ | refine Plan.int (remN _ _) ?_ | refine Plan.int (u8N _) ?_ | skip))
    | refine Plan.nilOk rfl rfl rfl rfl ?_
    | refine Plan.fieldC rfl rfl rfl rfl (by first | exact Try.underlying65 | exact Try.underlying67 | exact Try.underlying73) rfl (by kernel_rfl) (by first | exact (rfl : _ = 0) | exact (rfl : _ = 1) | exact (rfl : _ = 2) | exact (rfl : _ = 3) | exact (rfl : _ = 4) | exact (rfl : _ = 5)) ?_
    | refine Plan.loadC (key := 1000) (q := 0) rfl rfl rfl rfl rfl rfl (obj_reads1 rfl) (by first | exact Try.underlying3 | exact Try.underlying9 | exact Try.underlying27 | exact Try.underlying4 | exact Try.underlying5 | exact Try.underlying33 | exact Try.underlying25 | exact Try.underlying23) (by rfl) (by decide) ?_
    | refine Plan.loadC (key := 1000) (q := 1) rfl rfl rfl rfl rfl rfl (obj_reads1 rfl) (by first | exact Try.underlying3 | exact Try.underlying9 | exact Try.underlying27 | exact Try.underlying4 | exact Try.underlying5 | exact Try.underlying33 | exact Try.underlying25 | exact Try.underlying23) (by rfl) (by decide) ?_
    | refine Plan.loadC (key := 1000) (q := 2) rfl rfl rfl rfl rfl rfl (obj_reads1 rfl) (by first | exact Try.underlying3 | exact Try.underlying9 | exact Try.underlying27 | exact Try.underlying4 | exact Try.underlying5 | exact Try.underlying33 | exact Try.underlying25 | exact Try.underlying23) (by rfl) (by decide) ?_
    | refine Plan.eqlPtr rfl rfl rfl rfl (by kernel_rfl) ?_
    | refine Plan.neqPtr rfl rfl rfl rfl (by kernel_rfl) ?_
    | refine J.seq (J.region mixed hI (by kernel_rfl) ?_)
    | refine J.region mixed hI (by kernel_rfl) ?_
    | refine J.seq (J.seq (J.region mixed hI (by kernel_rfl) ?_))
    | refine J.condF rfl ?_
    | refine J.condT rfl ?_
    | refine J.skip ?_)
  refine J.block ?_
  repeat (first
    | refine Plan.move rfl rfl rfl rfl ?_
    | refine Plan.assign rfl rfl rfl rfl ?_
    | refine Plan.skip rfl rfl ?_
    | refine Plan.extract rfl rfl rfl rfl rfl ?_
    | refine Plan.pick rfl rfl rfl rfl rfl ?_
    | refine Plan.lenStr rfl rfl rfl rfl Try.underlying9 ?_
    | refine Plan.lenE rfl rfl rfl rfl Try.underlying27 ?_
    | (refine Plan.ints rfl rfl rfl rfl rfl rfl ?_; (first | refine Plan.int (i64u8 _) ?_ | refine Plan.int (i64r (by omega)) ?_ | refine Plan.int (u64r (by omega)) ?_ | refine Plan.int (u8r (by omega)) ?_ | refine Plan.int (u16r (by omega)) ?_ | refine Plan.int (quoN (by omega)) ?_ | refine Plan.int (remN _ _) ?_ | refine Plan.int (u8N _) ?_ | skip))
    | refine Plan.un rfl rfl rfl rfl rfl ?_
    | refine Plan.lenB rfl rfl rfl rfl (by first | exact Sub.refl _ | exact Sub.own | exact Sub.old (fun _ h => h) | exact Sub.oldOwn (fun _ h => h) | exact Sub.nilRow | exact Sub.ownLower hB | exact Sub.nilOwn (fun _ h => Nat.le_trans hB h.size)) Try.underlying27 ?_
    | (refine Plan.convInt rfl rfl rfl rfl (by first | exact Try.underlying2 | exact Try.underlying3 | exact Try.underlying5 | exact Try.underlying21 | exact Try.underlying25 | exact Try.underlying33 | exact Try.underlying53 | exact Try.underlying89) (by first | exact Try.underlying2 | exact Try.underlying3 | exact Try.underlying5 | exact Try.underlying21 | exact Try.underlying25 | exact Try.underlying33 | exact Try.underlying53 | exact Try.underlying89) ?_; (first | refine Plan.int (i64u8 _) ?_ | refine Plan.int (i64r (by omega)) ?_ | refine Plan.int (u64r (by omega)) ?_ | refine Plan.int (u8r (by omega)) ?_ | refine Plan.int (u16r (by omega)) ?_ | refine Plan.int (quoN (by omega)) ?_ | refine Plan.int (remN _ _) ?_ | refine Plan.int (u8N _) ?_ | skip))
    | refine Plan.nilOk rfl rfl rfl rfl ?_
    | refine Plan.fieldC rfl rfl rfl rfl (by first | exact Try.underlying65 | exact Try.underlying67 | exact Try.underlying73) rfl (by kernel_rfl) (by first | exact (rfl : _ = 0) | exact (rfl : _ = 1) | exact (rfl : _ = 2) | exact (rfl : _ = 3) | exact (rfl : _ = 4) | exact (rfl : _ = 5)) ?_
    | refine Plan.loadC (key := 1000) (q := 0) rfl rfl rfl rfl rfl rfl (obj_reads1 rfl) (by first | exact Try.underlying3 | exact Try.underlying9 | exact Try.underlying27 | exact Try.underlying4 | exact Try.underlying5 | exact Try.underlying33 | exact Try.underlying25 | exact Try.underlying23) (by rfl) (by decide) ?_
    | refine Plan.loadC (key := 1000) (q := 1) rfl rfl rfl rfl rfl rfl (obj_reads1 rfl) (by first | exact Try.underlying3 | exact Try.underlying9 | exact Try.underlying27 | exact Try.underlying4 | exact Try.underlying5 | exact Try.underlying33 | exact Try.underlying25 | exact Try.underlying23) (by rfl) (by decide) ?_
    | refine Plan.loadC (key := 1000) (q := 2) rfl rfl rfl rfl rfl rfl (obj_reads1 rfl) (by first | exact Try.underlying3 | exact Try.underlying9 | exact Try.underlying27 | exact Try.underlying4 | exact Try.underlying5 | exact Try.underlying33 | exact Try.underlying25 | exact Try.underlying23) (by rfl) (by decide) ?_
    | refine Plan.eqlPtr rfl rfl rfl rfl (by kernel_rfl) ?_
    | refine Plan.neqPtr rfl rfl rfl rfl (by kernel_rfl) ?_
    | refine J.seq (J.region mixed hI (by kernel_rfl) ?_)
    | refine J.region mixed hI (by kernel_rfl) ?_
    | refine J.seq (J.seq (J.region mixed hI (by kernel_rfl) ?_))
    | refine J.condF rfl ?_
    | refine J.condT rfl ?_
    | refine J.skip ?_)
  refine J.condE rfl (fun k1 => ?_) (fun k1 => ?_)
  · repeat (first
    | refine Plan.move rfl rfl rfl rfl ?_
    | refine Plan.assign rfl rfl rfl rfl ?_
    | refine Plan.skip rfl rfl ?_
    | refine Plan.extract rfl rfl rfl rfl rfl ?_
    | refine Plan.pick rfl rfl rfl rfl rfl ?_
    | refine Plan.lenStr rfl rfl rfl rfl Try.underlying9 ?_
    | refine Plan.lenE rfl rfl rfl rfl Try.underlying27 ?_
    | (refine Plan.ints rfl rfl rfl rfl rfl rfl ?_; (first | refine Plan.int (i64u8 _) ?_ | refine Plan.int (i64r (by omega)) ?_ | refine Plan.int (u64r (by omega)) ?_ | refine Plan.int (u8r (by omega)) ?_ | refine Plan.int (u16r (by omega)) ?_ | refine Plan.int (quoN (by omega)) ?_ | refine Plan.int (remN _ _) ?_ | refine Plan.int (u8N _) ?_ | skip))
    | refine Plan.un rfl rfl rfl rfl rfl ?_
    | refine Plan.lenB rfl rfl rfl rfl (by first | exact Sub.refl _ | exact Sub.own | exact Sub.old (fun _ h => h) | exact Sub.oldOwn (fun _ h => h) | exact Sub.nilRow | exact Sub.ownLower hB | exact Sub.nilOwn (fun _ h => Nat.le_trans hB h.size)) Try.underlying27 ?_
    | (refine Plan.convInt rfl rfl rfl rfl (by first | exact Try.underlying2 | exact Try.underlying3 | exact Try.underlying5 | exact Try.underlying21 | exact Try.underlying25 | exact Try.underlying33 | exact Try.underlying53 | exact Try.underlying89) (by first | exact Try.underlying2 | exact Try.underlying3 | exact Try.underlying5 | exact Try.underlying21 | exact Try.underlying25 | exact Try.underlying33 | exact Try.underlying53 | exact Try.underlying89) ?_; (first | refine Plan.int (i64u8 _) ?_ | refine Plan.int (i64r (by omega)) ?_ | refine Plan.int (u64r (by omega)) ?_ | refine Plan.int (u8r (by omega)) ?_ | refine Plan.int (u16r (by omega)) ?_ | refine Plan.int (quoN (by omega)) ?_ | refine Plan.int (remN _ _) ?_ | refine Plan.int (u8N _) ?_ | skip))
    | refine Plan.nilOk rfl rfl rfl rfl ?_
    | refine Plan.fieldC rfl rfl rfl rfl (by first | exact Try.underlying65 | exact Try.underlying67 | exact Try.underlying73) rfl (by kernel_rfl) (by first | exact (rfl : _ = 0) | exact (rfl : _ = 1) | exact (rfl : _ = 2) | exact (rfl : _ = 3) | exact (rfl : _ = 4) | exact (rfl : _ = 5)) ?_
    | refine Plan.loadC (key := 1000) (q := 0) rfl rfl rfl rfl rfl rfl (obj_reads1 rfl) (by first | exact Try.underlying3 | exact Try.underlying9 | exact Try.underlying27 | exact Try.underlying4 | exact Try.underlying5 | exact Try.underlying33 | exact Try.underlying25 | exact Try.underlying23) (by rfl) (by decide) ?_
    | refine Plan.loadC (key := 1000) (q := 1) rfl rfl rfl rfl rfl rfl (obj_reads1 rfl) (by first | exact Try.underlying3 | exact Try.underlying9 | exact Try.underlying27 | exact Try.underlying4 | exact Try.underlying5 | exact Try.underlying33 | exact Try.underlying25 | exact Try.underlying23) (by rfl) (by decide) ?_
    | refine Plan.loadC (key := 1000) (q := 2) rfl rfl rfl rfl rfl rfl (obj_reads1 rfl) (by first | exact Try.underlying3 | exact Try.underlying9 | exact Try.underlying27 | exact Try.underlying4 | exact Try.underlying5 | exact Try.underlying33 | exact Try.underlying25 | exact Try.underlying23) (by rfl) (by decide) ?_
    | refine Plan.eqlPtr rfl rfl rfl rfl (by kernel_rfl) ?_
    | refine Plan.neqPtr rfl rfl rfl rfl (by kernel_rfl) ?_
    | refine J.seq (J.region mixed hI (by kernel_rfl) ?_)
    | refine J.region mixed hI (by kernel_rfl) ?_
    | refine J.seq (J.seq (J.region mixed hI (by kernel_rfl) ?_))
    | refine J.condF rfl ?_
    | refine J.condT rfl ?_
    | refine J.skip ?_)
    refine Plan.convSB rfl rfl rfl rfl Try.underlying9 Try.underlying27 Try.underlying5 (by omega) ?_
    have hc := disk_Append β l f r o.b h.2 hr (by omega)
    by_cases hfit : l.length + o.b.length ≤ r
    · rw [if_pos hfit, if_pos hfit] at hc
      simp only [dStep, if_pos k1, if_pos hfit, Prod.mk.injEq] at hd
      obtain ⟨⟨rfl, rfl⟩, rfl⟩ := hd
      refine Plan.callC (key := 1000) (q := 0) rfl rfl rfl (hc) Try.func18 rfl rfl (by intro _ e; cases e; decide) (by repeat (first | exact Opnds.nil | refine Opnds.cons rfl (by first | exact Sub.refl _ | exact Sub.own | exact Sub.old (fun _ h => h) | exact Sub.oldOwn (fun _ h => h) | exact Sub.nilRow) ?_)) rfl hA rfl ?_
      intro _ _
      repeat (first
    | refine Plan.move rfl rfl rfl rfl ?_
    | refine Plan.assign rfl rfl rfl rfl ?_
    | refine Plan.skip rfl rfl ?_
    | refine Plan.extract rfl rfl rfl rfl rfl ?_
    | refine Plan.pick rfl rfl rfl rfl rfl ?_
    | refine Plan.lenStr rfl rfl rfl rfl Try.underlying9 ?_
    | refine Plan.lenE rfl rfl rfl rfl Try.underlying27 ?_
    | (refine Plan.ints rfl rfl rfl rfl rfl rfl ?_; (first | refine Plan.int (i64u8 _) ?_ | refine Plan.int (i64r (by omega)) ?_ | refine Plan.int (u64r (by omega)) ?_ | refine Plan.int (u8r (by omega)) ?_ | refine Plan.int (u16r (by omega)) ?_ | refine Plan.int (quoN (by omega)) ?_ | refine Plan.int (remN _ _) ?_ | refine Plan.int (u8N _) ?_ | skip))
    | refine Plan.un rfl rfl rfl rfl rfl ?_
    | refine Plan.lenB rfl rfl rfl rfl (by first | exact Sub.refl _ | exact Sub.own | exact Sub.old (fun _ h => h) | exact Sub.oldOwn (fun _ h => h) | exact Sub.nilRow | exact Sub.ownLower hB | exact Sub.nilOwn (fun _ h => Nat.le_trans hB h.size)) Try.underlying27 ?_
    | (refine Plan.convInt rfl rfl rfl rfl (by first | exact Try.underlying2 | exact Try.underlying3 | exact Try.underlying5 | exact Try.underlying21 | exact Try.underlying25 | exact Try.underlying33 | exact Try.underlying53 | exact Try.underlying89) (by first | exact Try.underlying2 | exact Try.underlying3 | exact Try.underlying5 | exact Try.underlying21 | exact Try.underlying25 | exact Try.underlying33 | exact Try.underlying53 | exact Try.underlying89) ?_; (first | refine Plan.int (i64u8 _) ?_ | refine Plan.int (i64r (by omega)) ?_ | refine Plan.int (u64r (by omega)) ?_ | refine Plan.int (u8r (by omega)) ?_ | refine Plan.int (u16r (by omega)) ?_ | refine Plan.int (quoN (by omega)) ?_ | refine Plan.int (remN _ _) ?_ | refine Plan.int (u8N _) ?_ | skip))
    | refine Plan.nilOk rfl rfl rfl rfl ?_
    | refine Plan.fieldC rfl rfl rfl rfl (by first | exact Try.underlying65 | exact Try.underlying67 | exact Try.underlying73) rfl (by kernel_rfl) (by first | exact (rfl : _ = 0) | exact (rfl : _ = 1) | exact (rfl : _ = 2) | exact (rfl : _ = 3) | exact (rfl : _ = 4) | exact (rfl : _ = 5)) ?_
    | refine Plan.loadC (key := 1000) (q := 0) rfl rfl rfl rfl rfl rfl (obj_reads1 rfl) (by first | exact Try.underlying3 | exact Try.underlying9 | exact Try.underlying27 | exact Try.underlying4 | exact Try.underlying5 | exact Try.underlying33 | exact Try.underlying25 | exact Try.underlying23) (by rfl) (by decide) ?_
    | refine Plan.loadC (key := 1000) (q := 1) rfl rfl rfl rfl rfl rfl (obj_reads1 rfl) (by first | exact Try.underlying3 | exact Try.underlying9 | exact Try.underlying27 | exact Try.underlying4 | exact Try.underlying5 | exact Try.underlying33 | exact Try.underlying25 | exact Try.underlying23) (by rfl) (by decide) ?_
    | refine Plan.loadC (key := 1000) (q := 2) rfl rfl rfl rfl rfl rfl (obj_reads1 rfl) (by first | exact Try.underlying3 | exact Try.underlying9 | exact Try.underlying27 | exact Try.underlying4 | exact Try.underlying5 | exact Try.underlying33 | exact Try.underlying25 | exact Try.underlying23) (by rfl) (by decide) ?_
    | refine Plan.eqlPtr rfl rfl rfl rfl (by kernel_rfl) ?_
    | refine Plan.neqPtr rfl rfl rfl rfl (by kernel_rfl) ?_
    | refine J.seq (J.region mixed hI (by kernel_rfl) ?_)
    | refine J.region mixed hI (by kernel_rfl) ?_
    | refine J.seq (J.seq (J.region mixed hI (by kernel_rfl) ?_))
    | refine J.condF rfl ?_
    | refine J.condT rfl ?_
    | refine J.skip ?_)
      exact J.ret (Nrm.retC1 (key := 1000) () rfl rfl rfl trivial (Sub.refl _) Ent.left)
    · rw [if_neg hfit, if_neg hfit] at hc
      simp only [dStep, if_pos k1, if_neg hfit, Prod.mk.injEq] at hd
      obtain ⟨⟨rfl, rfl⟩, rfl⟩ := hd
      refine Plan.callC (key := 1000) (q := 0) rfl rfl rfl (hc) Try.func18 rfl rfl (by intro _ e; cases e; decide) (by repeat (first | exact Opnds.nil | refine Opnds.cons rfl (by first | exact Sub.refl _ | exact Sub.own | exact Sub.old (fun _ h => h) | exact Sub.oldOwn (fun _ h => h) | exact Sub.nilRow) ?_)) rfl hA rfl ?_
      intro _ _
      repeat (first
    | refine Plan.move rfl rfl rfl rfl ?_
    | refine Plan.assign rfl rfl rfl rfl ?_
    | refine Plan.skip rfl rfl ?_
    | refine Plan.extract rfl rfl rfl rfl rfl ?_
    | refine Plan.pick rfl rfl rfl rfl rfl ?_
    | refine Plan.lenStr rfl rfl rfl rfl Try.underlying9 ?_
    | refine Plan.lenE rfl rfl rfl rfl Try.underlying27 ?_
    | (refine Plan.ints rfl rfl rfl rfl rfl rfl ?_; (first | refine Plan.int (i64u8 _) ?_ | refine Plan.int (i64r (by omega)) ?_ | refine Plan.int (u64r (by omega)) ?_ | refine Plan.int (u8r (by omega)) ?_ | refine Plan.int (u16r (by omega)) ?_ | refine Plan.int (quoN (by omega)) ?_ | refine Plan.int (remN _ _) ?_ | refine Plan.int (u8N _) ?_ | skip))
    | refine Plan.un rfl rfl rfl rfl rfl ?_
    | refine Plan.lenB rfl rfl rfl rfl (by first | exact Sub.refl _ | exact Sub.own | exact Sub.old (fun _ h => h) | exact Sub.oldOwn (fun _ h => h) | exact Sub.nilRow | exact Sub.ownLower hB | exact Sub.nilOwn (fun _ h => Nat.le_trans hB h.size)) Try.underlying27 ?_
    | (refine Plan.convInt rfl rfl rfl rfl (by first | exact Try.underlying2 | exact Try.underlying3 | exact Try.underlying5 | exact Try.underlying21 | exact Try.underlying25 | exact Try.underlying33 | exact Try.underlying53 | exact Try.underlying89) (by first | exact Try.underlying2 | exact Try.underlying3 | exact Try.underlying5 | exact Try.underlying21 | exact Try.underlying25 | exact Try.underlying33 | exact Try.underlying53 | exact Try.underlying89) ?_; (first | refine Plan.int (i64u8 _) ?_ | refine Plan.int (i64r (by omega)) ?_ | refine Plan.int (u64r (by omega)) ?_ | refine Plan.int (u8r (by omega)) ?_ | refine Plan.int (u16r (by omega)) ?_ | refine Plan.int (quoN (by omega)) ?_ | refine Plan.int (remN _ _) ?_ | refine Plan.int (u8N _) ?_ | skip))
    | refine Plan.nilOk rfl rfl rfl rfl ?_
    | refine Plan.fieldC rfl rfl rfl rfl (by first | exact Try.underlying65 | exact Try.underlying67 | exact Try.underlying73) rfl (by kernel_rfl) (by first | exact (rfl : _ = 0) | exact (rfl : _ = 1) | exact (rfl : _ = 2) | exact (rfl : _ = 3) | exact (rfl : _ = 4) | exact (rfl : _ = 5)) ?_
    | refine Plan.loadC (key := 1000) (q := 0) rfl rfl rfl rfl rfl rfl (obj_reads1 rfl) (by first | exact Try.underlying3 | exact Try.underlying9 | exact Try.underlying27 | exact Try.underlying4 | exact Try.underlying5 | exact Try.underlying33 | exact Try.underlying25 | exact Try.underlying23) (by rfl) (by decide) ?_
    | refine Plan.loadC (key := 1000) (q := 1) rfl rfl rfl rfl rfl rfl (obj_reads1 rfl) (by first | exact Try.underlying3 | exact Try.underlying9 | exact Try.underlying27 | exact Try.underlying4 | exact Try.underlying5 | exact Try.underlying33 | exact Try.underlying25 | exact Try.underlying23) (by rfl) (by decide) ?_
    | refine Plan.loadC (key := 1000) (q := 2) rfl rfl rfl rfl rfl rfl (obj_reads1 rfl) (by first | exact Try.underlying3 | exact Try.underlying9 | exact Try.underlying27 | exact Try.underlying4 | exact Try.underlying5 | exact Try.underlying33 | exact Try.underlying25 | exact Try.underlying23) (by rfl) (by decide) ?_
    | refine Plan.eqlPtr rfl rfl rfl rfl (by kernel_rfl) ?_
    | refine Plan.neqPtr rfl rfl rfl rfl (by kernel_rfl) ?_
    | refine J.seq (J.region mixed hI (by kernel_rfl) ?_)
    | refine J.region mixed hI (by kernel_rfl) ?_
    | refine J.seq (J.seq (J.region mixed hI (by kernel_rfl) ?_))
    | refine J.condF rfl ?_
    | refine J.condT rfl ?_
    | refine J.skip ?_)
      exact J.ret (Nrm.retC1 (key := 1000) () rfl rfl rfl trivial (Sub.refl _) Ent.left)
  repeat (first
    | refine Plan.move rfl rfl rfl rfl ?_
    | refine Plan.assign rfl rfl rfl rfl ?_
    | refine Plan.skip rfl rfl ?_
    | refine Plan.extract rfl rfl rfl rfl rfl ?_
    | refine Plan.pick rfl rfl rfl rfl rfl ?_
    | refine Plan.lenStr rfl rfl rfl rfl Try.underlying9 ?_
    | refine Plan.lenE rfl rfl rfl rfl Try.underlying27 ?_
    | (refine Plan.ints rfl rfl rfl rfl rfl rfl ?_; (first | refine Plan.int (i64u8 _) ?_ | refine Plan.int (i64r (by omega)) ?_ | refine Plan.int (u64r (by omega)) ?_ | refine Plan.int (u8r (by omega)) ?_ | refine Plan.int (u16r (by omega)) ?_ | refine Plan.int (quoN (by omega)) ?_ | refine Plan.int (remN _ _) ?_ | refine Plan.int (u8N _) ?_ | skip))
    | refine Plan.un rfl rfl rfl rfl rfl ?_
    | refine Plan.lenB rfl rfl rfl rfl (by first | exact Sub.refl _ | exact Sub.own | exact Sub.old (fun _ h => h) | exact Sub.oldOwn (fun _ h => h) | exact Sub.nilRow | exact Sub.ownLower hB | exact Sub.nilOwn (fun _ h => Nat.le_trans hB h.size)) Try.underlying27 ?_
    | (refine Plan.convInt rfl rfl rfl rfl (by first | exact Try.underlying2 | exact Try.underlying3 | exact Try.underlying5 | exact Try.underlying21 | exact Try.underlying25 | exact Try.underlying33 | exact Try.underlying53 | exact Try.underlying89) (by first | exact Try.underlying2 | exact Try.underlying3 | exact Try.underlying5 | exact Try.underlying21 | exact Try.underlying25 | exact Try.underlying33 | exact Try.underlying53 | exact Try.underlying89) ?_; (first | refine Plan.int (i64u8 _) ?_ | refine Plan.int (i64r (by omega)) ?_ | refine Plan.int (u64r (by omega)) ?_ | refine Plan.int (u8r (by omega)) ?_ | refine Plan.int (u16r (by omega)) ?_ | refine Plan.int (quoN (by omega)) ?_ | refine Plan.int (remN _ _) ?_ | refine Plan.int (u8N _) ?_ | skip))
    | refine Plan.nilOk rfl rfl rfl rfl ?_
    | refine Plan.fieldC rfl rfl rfl rfl (by first | exact Try.underlying65 | exact Try.underlying67 | exact Try.underlying73) rfl (by kernel_rfl) (by first | exact (rfl : _ = 0) | exact (rfl : _ = 1) | exact (rfl : _ = 2) | exact (rfl : _ = 3) | exact (rfl : _ = 4) | exact (rfl : _ = 5)) ?_
    | refine Plan.loadC (key := 1000) (q := 0) rfl rfl rfl rfl rfl rfl (obj_reads1 rfl) (by first | exact Try.underlying3 | exact Try.underlying9 | exact Try.underlying27 | exact Try.underlying4 | exact Try.underlying5 | exact Try.underlying33 | exact Try.underlying25 | exact Try.underlying23) (by rfl) (by decide) ?_
    | refine Plan.loadC (key := 1000) (q := 1) rfl rfl rfl rfl rfl rfl (obj_reads1 rfl) (by first | exact Try.underlying3 | exact Try.underlying9 | exact Try.underlying27 | exact Try.underlying4 | exact Try.underlying5 | exact Try.underlying33 | exact Try.underlying25 | exact Try.underlying23) (by rfl) (by decide) ?_
    | refine Plan.loadC (key := 1000) (q := 2) rfl rfl rfl rfl rfl rfl (obj_reads1 rfl) (by first | exact Try.underlying3 | exact Try.underlying9 | exact Try.underlying27 | exact Try.underlying4 | exact Try.underlying5 | exact Try.underlying33 | exact Try.underlying25 | exact Try.underlying23) (by rfl) (by decide) ?_
    | refine Plan.eqlPtr rfl rfl rfl rfl (by kernel_rfl) ?_
    | refine Plan.neqPtr rfl rfl rfl rfl (by kernel_rfl) ?_
    | refine J.seq (J.region mixed hI (by kernel_rfl) ?_)
    | refine J.region mixed hI (by kernel_rfl) ?_
    | refine J.seq (J.seq (J.region mixed hI (by kernel_rfl) ?_))
    | refine J.condF rfl ?_
    | refine J.condT rfl ?_
    | refine J.skip ?_)
  refine J.condE rfl (fun k2 => ?_) (fun k2 => ?_)
  · simp only [dStep, if_neg k1, if_pos k2, Prod.mk.injEq] at hd
    obtain ⟨⟨rfl, rfl⟩, rfl⟩ := hd
    repeat (first
    | refine Plan.move rfl rfl rfl rfl ?_
    | refine Plan.assign rfl rfl rfl rfl ?_
    | refine Plan.skip rfl rfl ?_
    | refine Plan.extract rfl rfl rfl rfl rfl ?_
    | refine Plan.pick rfl rfl rfl rfl rfl ?_
    | refine Plan.lenStr rfl rfl rfl rfl Try.underlying9 ?_
    | refine Plan.lenE rfl rfl rfl rfl Try.underlying27 ?_
    | (refine Plan.ints rfl rfl rfl rfl rfl rfl ?_; (first | refine Plan.int (i64u8 _) ?_ | refine Plan.int (i64r (by omega)) ?_ | refine Plan.int (u64r (by omega)) ?_ | refine Plan.int (u8r (by omega)) ?_ | refine Plan.int (u16r (by omega)) ?_ | refine Plan.int (quoN (by omega)) ?_ | refine Plan.int (remN _ _) ?_ | refine Plan.int (u8N _) ?_ | skip))
    | refine Plan.un rfl rfl rfl rfl rfl ?_
    | refine Plan.lenB rfl rfl rfl rfl (by first | exact Sub.refl _ | exact Sub.own | exact Sub.old (fun _ h => h) | exact Sub.oldOwn (fun _ h => h) | exact Sub.nilRow | exact Sub.ownLower hB | exact Sub.nilOwn (fun _ h => Nat.le_trans hB h.size)) Try.underlying27 ?_
    | (refine Plan.convInt rfl rfl rfl rfl (by first | exact Try.underlying2 | exact Try.underlying3 | exact Try.underlying5 | exact Try.underlying21 | exact Try.underlying25 | exact Try.underlying33 | exact Try.underlying53 | exact Try.underlying89) (by first | exact Try.underlying2 | exact Try.underlying3 | exact Try.underlying5 | exact Try.underlying21 | exact Try.underlying25 | exact Try.underlying33 | exact Try.underlying53 | exact Try.underlying89) ?_; (first | refine Plan.int (i64u8 _) ?_ | refine Plan.int (i64r (by omega)) ?_ | refine Plan.int (u64r (by omega)) ?_ | refine Plan.int (u8r (by omega)) ?_ | refine Plan.int (u16r (by omega)) ?_ | refine Plan.int (quoN (by omega)) ?_ | refine Plan.int (remN _ _) ?_ | refine Plan.int (u8N _) ?_ | skip))
    | refine Plan.nilOk rfl rfl rfl rfl ?_
    | refine Plan.fieldC rfl rfl rfl rfl (by first | exact Try.underlying65 | exact Try.underlying67 | exact Try.underlying73) rfl (by kernel_rfl) (by first | exact (rfl : _ = 0) | exact (rfl : _ = 1) | exact (rfl : _ = 2) | exact (rfl : _ = 3) | exact (rfl : _ = 4) | exact (rfl : _ = 5)) ?_
    | refine Plan.loadC (key := 1000) (q := 0) rfl rfl rfl rfl rfl rfl (obj_reads1 rfl) (by first | exact Try.underlying3 | exact Try.underlying9 | exact Try.underlying27 | exact Try.underlying4 | exact Try.underlying5 | exact Try.underlying33 | exact Try.underlying25 | exact Try.underlying23) (by rfl) (by decide) ?_
    | refine Plan.loadC (key := 1000) (q := 1) rfl rfl rfl rfl rfl rfl (obj_reads1 rfl) (by first | exact Try.underlying3 | exact Try.underlying9 | exact Try.underlying27 | exact Try.underlying4 | exact Try.underlying5 | exact Try.underlying33 | exact Try.underlying25 | exact Try.underlying23) (by rfl) (by decide) ?_
    | refine Plan.loadC (key := 1000) (q := 2) rfl rfl rfl rfl rfl rfl (obj_reads1 rfl) (by first | exact Try.underlying3 | exact Try.underlying9 | exact Try.underlying27 | exact Try.underlying4 | exact Try.underlying5 | exact Try.underlying33 | exact Try.underlying25 | exact Try.underlying23) (by rfl) (by decide) ?_
    | refine Plan.eqlPtr rfl rfl rfl rfl (by kernel_rfl) ?_
    | refine Plan.neqPtr rfl rfl rfl rfl (by kernel_rfl) ?_
    | refine J.seq (J.region mixed hI (by kernel_rfl) ?_)
    | refine J.region mixed hI (by kernel_rfl) ?_
    | refine J.seq (J.seq (J.region mixed hI (by kernel_rfl) ?_))
    | refine J.condF rfl ?_
    | refine J.condT rfl ?_
    | refine J.skip ?_)
    refine Plan.callC (key := 1000) (q := 0) rfl rfl rfl (disk_Sync β l f r) Try.func40 rfl rfl (by intro _ e; cases e; decide) (by repeat (first | exact Opnds.nil | refine Opnds.cons rfl (by first | exact Sub.refl _ | exact Sub.own | exact Sub.old (fun _ h => h) | exact Sub.oldOwn (fun _ h => h) | exact Sub.nilRow) ?_)) rfl hA rfl ?_
    intro _ _
    repeat (first
    | refine Plan.move rfl rfl rfl rfl ?_
    | refine Plan.assign rfl rfl rfl rfl ?_
    | refine Plan.skip rfl rfl ?_
    | refine Plan.extract rfl rfl rfl rfl rfl ?_
    | refine Plan.pick rfl rfl rfl rfl rfl ?_
    | refine Plan.lenStr rfl rfl rfl rfl Try.underlying9 ?_
    | refine Plan.lenE rfl rfl rfl rfl Try.underlying27 ?_
    | (refine Plan.ints rfl rfl rfl rfl rfl rfl ?_; (first | refine Plan.int (i64u8 _) ?_ | refine Plan.int (i64r (by omega)) ?_ | refine Plan.int (u64r (by omega)) ?_ | refine Plan.int (u8r (by omega)) ?_ | refine Plan.int (u16r (by omega)) ?_ | refine Plan.int (quoN (by omega)) ?_ | refine Plan.int (remN _ _) ?_ | refine Plan.int (u8N _) ?_ | skip))
    | refine Plan.un rfl rfl rfl rfl rfl ?_
    | refine Plan.lenB rfl rfl rfl rfl (by first | exact Sub.refl _ | exact Sub.own | exact Sub.old (fun _ h => h) | exact Sub.oldOwn (fun _ h => h) | exact Sub.nilRow | exact Sub.ownLower hB | exact Sub.nilOwn (fun _ h => Nat.le_trans hB h.size)) Try.underlying27 ?_
    | (refine Plan.convInt rfl rfl rfl rfl (by first | exact Try.underlying2 | exact Try.underlying3 | exact Try.underlying5 | exact Try.underlying21 | exact Try.underlying25 | exact Try.underlying33 | exact Try.underlying53 | exact Try.underlying89) (by first | exact Try.underlying2 | exact Try.underlying3 | exact Try.underlying5 | exact Try.underlying21 | exact Try.underlying25 | exact Try.underlying33 | exact Try.underlying53 | exact Try.underlying89) ?_; (first | refine Plan.int (i64u8 _) ?_ | refine Plan.int (i64r (by omega)) ?_ | refine Plan.int (u64r (by omega)) ?_ | refine Plan.int (u8r (by omega)) ?_ | refine Plan.int (u16r (by omega)) ?_ | refine Plan.int (quoN (by omega)) ?_ | refine Plan.int (remN _ _) ?_ | refine Plan.int (u8N _) ?_ | skip))
    | refine Plan.nilOk rfl rfl rfl rfl ?_
    | refine Plan.fieldC rfl rfl rfl rfl (by first | exact Try.underlying65 | exact Try.underlying67 | exact Try.underlying73) rfl (by kernel_rfl) (by first | exact (rfl : _ = 0) | exact (rfl : _ = 1) | exact (rfl : _ = 2) | exact (rfl : _ = 3) | exact (rfl : _ = 4) | exact (rfl : _ = 5)) ?_
    | refine Plan.loadC (key := 1000) (q := 0) rfl rfl rfl rfl rfl rfl (obj_reads1 rfl) (by first | exact Try.underlying3 | exact Try.underlying9 | exact Try.underlying27 | exact Try.underlying4 | exact Try.underlying5 | exact Try.underlying33 | exact Try.underlying25 | exact Try.underlying23) (by rfl) (by decide) ?_
    | refine Plan.loadC (key := 1000) (q := 1) rfl rfl rfl rfl rfl rfl (obj_reads1 rfl) (by first | exact Try.underlying3 | exact Try.underlying9 | exact Try.underlying27 | exact Try.underlying4 | exact Try.underlying5 | exact Try.underlying33 | exact Try.underlying25 | exact Try.underlying23) (by rfl) (by decide) ?_
    | refine Plan.loadC (key := 1000) (q := 2) rfl rfl rfl rfl rfl rfl (obj_reads1 rfl) (by first | exact Try.underlying3 | exact Try.underlying9 | exact Try.underlying27 | exact Try.underlying4 | exact Try.underlying5 | exact Try.underlying33 | exact Try.underlying25 | exact Try.underlying23) (by rfl) (by decide) ?_
    | refine Plan.eqlPtr rfl rfl rfl rfl (by kernel_rfl) ?_
    | refine Plan.neqPtr rfl rfl rfl rfl (by kernel_rfl) ?_
    | refine J.seq (J.region mixed hI (by kernel_rfl) ?_)
    | refine J.region mixed hI (by kernel_rfl) ?_
    | refine J.seq (J.seq (J.region mixed hI (by kernel_rfl) ?_))
    | refine J.condF rfl ?_
    | refine J.condT rfl ?_
    | refine J.skip ?_)
    exact J.ret (Nrm.retC1 (key := 1000) () rfl rfl rfl trivial (Sub.refl _) Ent.left)
  repeat (first
    | refine Plan.move rfl rfl rfl rfl ?_
    | refine Plan.assign rfl rfl rfl rfl ?_
    | refine Plan.skip rfl rfl ?_
    | refine Plan.extract rfl rfl rfl rfl rfl ?_
    | refine Plan.pick rfl rfl rfl rfl rfl ?_
    | refine Plan.lenStr rfl rfl rfl rfl Try.underlying9 ?_
    | refine Plan.lenE rfl rfl rfl rfl Try.underlying27 ?_
    | (refine Plan.ints rfl rfl rfl rfl rfl rfl ?_; (first | refine Plan.int (i64u8 _) ?_ | refine Plan.int (i64r (by omega)) ?_ | refine Plan.int (u64r (by omega)) ?_ | refine Plan.int (u8r (by omega)) ?_ | refine Plan.int (u16r (by omega)) ?_ | refine Plan.int (quoN (by omega)) ?_ | refine Plan.int (remN _ _) ?_ | refine Plan.int (u8N _) ?_ | skip))
    | refine Plan.un rfl rfl rfl rfl rfl ?_
    | refine Plan.lenB rfl rfl rfl rfl (by first | exact Sub.refl _ | exact Sub.own | exact Sub.old (fun _ h => h) | exact Sub.oldOwn (fun _ h => h) | exact Sub.nilRow | exact Sub.ownLower hB | exact Sub.nilOwn (fun _ h => Nat.le_trans hB h.size)) Try.underlying27 ?_
    | (refine Plan.convInt rfl rfl rfl rfl (by first | exact Try.underlying2 | exact Try.underlying3 | exact Try.underlying5 | exact Try.underlying21 | exact Try.underlying25 | exact Try.underlying33 | exact Try.underlying53 | exact Try.underlying89) (by first | exact Try.underlying2 | exact Try.underlying3 | exact Try.underlying5 | exact Try.underlying21 | exact Try.underlying25 | exact Try.underlying33 | exact Try.underlying53 | exact Try.underlying89) ?_; (first | refine Plan.int (i64u8 _) ?_ | refine Plan.int (i64r (by omega)) ?_ | refine Plan.int (u64r (by omega)) ?_ | refine Plan.int (u8r (by omega)) ?_ | refine Plan.int (u16r (by omega)) ?_ | refine Plan.int (quoN (by omega)) ?_ | refine Plan.int (remN _ _) ?_ | refine Plan.int (u8N _) ?_ | skip))
    | refine Plan.nilOk rfl rfl rfl rfl ?_
    | refine Plan.fieldC rfl rfl rfl rfl (by first | exact Try.underlying65 | exact Try.underlying67 | exact Try.underlying73) rfl (by kernel_rfl) (by first | exact (rfl : _ = 0) | exact (rfl : _ = 1) | exact (rfl : _ = 2) | exact (rfl : _ = 3) | exact (rfl : _ = 4) | exact (rfl : _ = 5)) ?_
    | refine Plan.loadC (key := 1000) (q := 0) rfl rfl rfl rfl rfl rfl (obj_reads1 rfl) (by first | exact Try.underlying3 | exact Try.underlying9 | exact Try.underlying27 | exact Try.underlying4 | exact Try.underlying5 | exact Try.underlying33 | exact Try.underlying25 | exact Try.underlying23) (by rfl) (by decide) ?_
    | refine Plan.loadC (key := 1000) (q := 1) rfl rfl rfl rfl rfl rfl (obj_reads1 rfl) (by first | exact Try.underlying3 | exact Try.underlying9 | exact Try.underlying27 | exact Try.underlying4 | exact Try.underlying5 | exact Try.underlying33 | exact Try.underlying25 | exact Try.underlying23) (by rfl) (by decide) ?_
    | refine Plan.loadC (key := 1000) (q := 2) rfl rfl rfl rfl rfl rfl (obj_reads1 rfl) (by first | exact Try.underlying3 | exact Try.underlying9 | exact Try.underlying27 | exact Try.underlying4 | exact Try.underlying5 | exact Try.underlying33 | exact Try.underlying25 | exact Try.underlying23) (by rfl) (by decide) ?_
    | refine Plan.eqlPtr rfl rfl rfl rfl (by kernel_rfl) ?_
    | refine Plan.neqPtr rfl rfl rfl rfl (by kernel_rfl) ?_
    | refine J.seq (J.region mixed hI (by kernel_rfl) ?_)
    | refine J.region mixed hI (by kernel_rfl) ?_
    | refine J.seq (J.seq (J.region mixed hI (by kernel_rfl) ?_))
    | refine J.condF rfl ?_
    | refine J.condT rfl ?_
    | refine J.skip ?_)
  refine J.condE rfl (fun k3 => ?_) (fun k3 => ?_)
  · repeat (first
    | refine Plan.move rfl rfl rfl rfl ?_
    | refine Plan.assign rfl rfl rfl rfl ?_
    | refine Plan.skip rfl rfl ?_
    | refine Plan.extract rfl rfl rfl rfl rfl ?_
    | refine Plan.pick rfl rfl rfl rfl rfl ?_
    | refine Plan.lenStr rfl rfl rfl rfl Try.underlying9 ?_
    | refine Plan.lenE rfl rfl rfl rfl Try.underlying27 ?_
    | (refine Plan.ints rfl rfl rfl rfl rfl rfl ?_; (first | refine Plan.int (i64u8 _) ?_ | refine Plan.int (i64r (by omega)) ?_ | refine Plan.int (u64r (by omega)) ?_ | refine Plan.int (u8r (by omega)) ?_ | refine Plan.int (u16r (by omega)) ?_ | refine Plan.int (quoN (by omega)) ?_ | refine Plan.int (remN _ _) ?_ | refine Plan.int (u8N _) ?_ | skip))
    | refine Plan.un rfl rfl rfl rfl rfl ?_
    | refine Plan.lenB rfl rfl rfl rfl (by first | exact Sub.refl _ | exact Sub.own | exact Sub.old (fun _ h => h) | exact Sub.oldOwn (fun _ h => h) | exact Sub.nilRow | exact Sub.ownLower hB | exact Sub.nilOwn (fun _ h => Nat.le_trans hB h.size)) Try.underlying27 ?_
    | (refine Plan.convInt rfl rfl rfl rfl (by first | exact Try.underlying2 | exact Try.underlying3 | exact Try.underlying5 | exact Try.underlying21 | exact Try.underlying25 | exact Try.underlying33 | exact Try.underlying53 | exact Try.underlying89) (by first | exact Try.underlying2 | exact Try.underlying3 | exact Try.underlying5 | exact Try.underlying21 | exact Try.underlying25 | exact Try.underlying33 | exact Try.underlying53 | exact Try.underlying89) ?_; (first | refine Plan.int (i64u8 _) ?_ | refine Plan.int (i64r (by omega)) ?_ | refine Plan.int (u64r (by omega)) ?_ | refine Plan.int (u8r (by omega)) ?_ | refine Plan.int (u16r (by omega)) ?_ | refine Plan.int (quoN (by omega)) ?_ | refine Plan.int (remN _ _) ?_ | refine Plan.int (u8N _) ?_ | skip))
    | refine Plan.nilOk rfl rfl rfl rfl ?_
    | refine Plan.fieldC rfl rfl rfl rfl (by first | exact Try.underlying65 | exact Try.underlying67 | exact Try.underlying73) rfl (by kernel_rfl) (by first | exact (rfl : _ = 0) | exact (rfl : _ = 1) | exact (rfl : _ = 2) | exact (rfl : _ = 3) | exact (rfl : _ = 4) | exact (rfl : _ = 5)) ?_
    | refine Plan.loadC (key := 1000) (q := 0) rfl rfl rfl rfl rfl rfl (obj_reads1 rfl) (by first | exact Try.underlying3 | exact Try.underlying9 | exact Try.underlying27 | exact Try.underlying4 | exact Try.underlying5 | exact Try.underlying33 | exact Try.underlying25 | exact Try.underlying23) (by rfl) (by decide) ?_
    | refine Plan.loadC (key := 1000) (q := 1) rfl rfl rfl rfl rfl rfl (obj_reads1 rfl) (by first | exact Try.underlying3 | exact Try.underlying9 | exact Try.underlying27 | exact Try.underlying4 | exact Try.underlying5 | exact Try.underlying33 | exact Try.underlying25 | exact Try.underlying23) (by rfl) (by decide) ?_
    | refine Plan.loadC (key := 1000) (q := 2) rfl rfl rfl rfl rfl rfl (obj_reads1 rfl) (by first | exact Try.underlying3 | exact Try.underlying9 | exact Try.underlying27 | exact Try.underlying4 | exact Try.underlying5 | exact Try.underlying33 | exact Try.underlying25 | exact Try.underlying23) (by rfl) (by decide) ?_
    | refine Plan.eqlPtr rfl rfl rfl rfl (by kernel_rfl) ?_
    | refine Plan.neqPtr rfl rfl rfl rfl (by kernel_rfl) ?_
    | refine J.seq (J.region mixed hI (by kernel_rfl) ?_)
    | refine J.region mixed hI (by kernel_rfl) ?_
    | refine J.seq (J.seq (J.region mixed hI (by kernel_rfl) ?_))
    | refine J.condF rfl ?_
    | refine J.condT rfl ?_
    | refine J.skip ?_)
    refine Plan.convSB rfl rfl rfl rfl Try.underlying9 Try.underlying27 Try.underlying5 (by omega) ?_
    have hc := disk_Replace β l f r o.b hr (by omega)
    by_cases hfit : o.b.length ≤ r
    · rw [if_pos hfit, if_pos hfit] at hc
      simp only [dStep, if_neg k1, if_neg k2, if_pos k3, if_pos hfit, Prod.mk.injEq] at hd
      obtain ⟨⟨rfl, rfl⟩, rfl⟩ := hd
      refine Plan.callC (key := 1000) (q := 0) rfl rfl rfl (hc) Try.func22 rfl rfl (by intro _ e; cases e; decide) (by repeat (first | exact Opnds.nil | refine Opnds.cons rfl (by first | exact Sub.refl _ | exact Sub.own | exact Sub.old (fun _ h => h) | exact Sub.oldOwn (fun _ h => h) | exact Sub.nilRow) ?_)) rfl hA rfl ?_
      intro _ _
      repeat (first
    | refine Plan.move rfl rfl rfl rfl ?_
    | refine Plan.assign rfl rfl rfl rfl ?_
    | refine Plan.skip rfl rfl ?_
    | refine Plan.extract rfl rfl rfl rfl rfl ?_
    | refine Plan.pick rfl rfl rfl rfl rfl ?_
    | refine Plan.lenStr rfl rfl rfl rfl Try.underlying9 ?_
    | refine Plan.lenE rfl rfl rfl rfl Try.underlying27 ?_
    | (refine Plan.ints rfl rfl rfl rfl rfl rfl ?_; (first | refine Plan.int (i64u8 _) ?_ | refine Plan.int (i64r (by omega)) ?_ | refine Plan.int (u64r (by omega)) ?_ | refine Plan.int (u8r (by omega)) ?_ | refine Plan.int (u16r (by omega)) ?_ | refine Plan.int (quoN (by omega)) ?_ | refine Plan.int (remN _ _) ?_ | refine Plan.int (u8N _) ?_ | skip))
    | refine Plan.un rfl rfl rfl rfl rfl ?_
    | refine Plan.lenB rfl rfl rfl rfl (by first | exact Sub.refl _ | exact Sub.own | exact Sub.old (fun _ h => h) | exact Sub.oldOwn (fun _ h => h) | exact Sub.nilRow | exact Sub.ownLower hB | exact Sub.nilOwn (fun _ h => Nat.le_trans hB h.size)) Try.underlying27 ?_
    | (refine Plan.convInt rfl rfl rfl rfl (by first | exact Try.underlying2 | exact Try.underlying3 | exact Try.underlying5 | exact Try.underlying21 | exact Try.underlying25 | exact Try.underlying33 | exact Try.underlying53 | exact Try.underlying89) (by first | exact Try.underlying2 | exact Try.underlying3 | exact Try.underlying5 | exact Try.underlying21 | exact Try.underlying25 | exact Try.underlying33 | exact Try.underlying53 | exact Try.underlying89) ?_; (first | refine Plan.int (i64u8 _) ?_ | refine Plan.int (i64r (by omega)) ?_ | refine Plan.int (u64r (by omega)) ?_ | refine Plan.int (u8r (by omega)) ?_ | refine Plan.int (u16r (by omega)) ?_ | refine Plan.int (quoN (by omega)) ?_ | refine Plan.int (remN _ _) ?_ | refine Plan.int (u8N _) ?_ | skip))
    | refine Plan.nilOk rfl rfl rfl rfl ?_
    | refine Plan.fieldC rfl rfl rfl rfl (by first | exact Try.underlying65 | exact Try.underlying67 | exact Try.underlying73) rfl (by kernel_rfl) (by first | exact (rfl : _ = 0) | exact (rfl : _ = 1) | exact (rfl : _ = 2) | exact (rfl : _ = 3) | exact (rfl : _ = 4) | exact (rfl : _ = 5)) ?_
    | refine Plan.loadC (key := 1000) (q := 0) rfl rfl rfl rfl rfl rfl (obj_reads1 rfl) (by first | exact Try.underlying3 | exact Try.underlying9 | exact Try.underlying27 | exact Try.underlying4 | exact Try.underlying5 | exact Try.underlying33 | exact Try.underlying25 | exact Try.underlying23) (by rfl) (by decide) ?_
    | refine Plan.loadC (key := 1000) (q := 1) rfl rfl rfl rfl rfl rfl (obj_reads1 rfl) (by first | exact Try.underlying3 | exact Try.underlying9 | exact Try.underlying27 | exact Try.underlying4 | exact Try.underlying5 | exact Try.underlying33 | exact Try.underlying25 | exact Try.underlying23) (by rfl) (by decide) ?_
    | refine Plan.loadC (key := 1000) (q := 2) rfl rfl rfl rfl rfl rfl (obj_reads1 rfl) (by first | exact Try.underlying3 | exact Try.underlying9 | exact Try.underlying27 | exact Try.underlying4 | exact Try.underlying5 | exact Try.underlying33 | exact Try.underlying25 | exact Try.underlying23) (by rfl) (by decide) ?_
    | refine Plan.eqlPtr rfl rfl rfl rfl (by kernel_rfl) ?_
    | refine Plan.neqPtr rfl rfl rfl rfl (by kernel_rfl) ?_
    | refine J.seq (J.region mixed hI (by kernel_rfl) ?_)
    | refine J.region mixed hI (by kernel_rfl) ?_
    | refine J.seq (J.seq (J.region mixed hI (by kernel_rfl) ?_))
    | refine J.condF rfl ?_
    | refine J.condT rfl ?_
    | refine J.skip ?_)
      exact J.ret (Nrm.retC1 (key := 1000) () rfl rfl rfl trivial (Sub.refl _) Ent.left)
    · rw [if_neg hfit, if_neg hfit] at hc
      simp only [dStep, if_neg k1, if_neg k2, if_pos k3, if_neg hfit, Prod.mk.injEq] at hd
      obtain ⟨⟨rfl, rfl⟩, rfl⟩ := hd
      refine Plan.callC (key := 1000) (q := 0) rfl rfl rfl (hc) Try.func22 rfl rfl (by intro _ e; cases e; decide) (by repeat (first | exact Opnds.nil | refine Opnds.cons rfl (by first | exact Sub.refl _ | exact Sub.own | exact Sub.old (fun _ h => h) | exact Sub.oldOwn (fun _ h => h) | exact Sub.nilRow) ?_)) rfl hA rfl ?_
      intro _ _
      repeat (first
    | refine Plan.move rfl rfl rfl rfl ?_
    | refine Plan.assign rfl rfl rfl rfl ?_
    | refine Plan.skip rfl rfl ?_
    | refine Plan.extract rfl rfl rfl rfl rfl ?_
    | refine Plan.pick rfl rfl rfl rfl rfl ?_
    | refine Plan.lenStr rfl rfl rfl rfl Try.underlying9 ?_
    | refine Plan.lenE rfl rfl rfl rfl Try.underlying27 ?_
    | (refine Plan.ints rfl rfl rfl rfl rfl rfl ?_; (first | refine Plan.int (i64u8 _) ?_ | refine Plan.int (i64r (by omega)) ?_ | refine Plan.int (u64r (by omega)) ?_ | refine Plan.int (u8r (by omega)) ?_ | refine Plan.int (u16r (by omega)) ?_ | refine Plan.int (quoN (by omega)) ?_ | refine Plan.int (remN _ _) ?_ | refine Plan.int (u8N _) ?_ | skip))
    | refine Plan.un rfl rfl rfl rfl rfl ?_
    | refine Plan.lenB rfl rfl rfl rfl (by first | exact Sub.refl _ | exact Sub.own | exact Sub.old (fun _ h => h) | exact Sub.oldOwn (fun _ h => h) | exact Sub.nilRow | exact Sub.ownLower hB | exact Sub.nilOwn (fun _ h => Nat.le_trans hB h.size)) Try.underlying27 ?_
    | (refine Plan.convInt rfl rfl rfl rfl (by first | exact Try.underlying2 | exact Try.underlying3 | exact Try.underlying5 | exact Try.underlying21 | exact Try.underlying25 | exact Try.underlying33 | exact Try.underlying53 | exact Try.underlying89) (by first | exact Try.underlying2 | exact Try.underlying3 | exact Try.underlying5 | exact Try.underlying21 | exact Try.underlying25 | exact Try.underlying33 | exact Try.underlying53 | exact Try.underlying89) ?_; (first | refine Plan.int (i64u8 _) ?_ | refine Plan.int (i64r (by omega)) ?_ | refine Plan.int (u64r (by omega)) ?_ | refine Plan.int (u8r (by omega)) ?_ | refine Plan.int (u16r (by omega)) ?_ | refine Plan.int (quoN (by omega)) ?_ | refine Plan.int (remN _ _) ?_ | refine Plan.int (u8N _) ?_ | skip))
    | refine Plan.nilOk rfl rfl rfl rfl ?_
    | refine Plan.fieldC rfl rfl rfl rfl (by first | exact Try.underlying65 | exact Try.underlying67 | exact Try.underlying73) rfl (by kernel_rfl) (by first | exact (rfl : _ = 0) | exact (rfl : _ = 1) | exact (rfl : _ = 2) | exact (rfl : _ = 3) | exact (rfl : _ = 4) | exact (rfl : _ = 5)) ?_
    | refine Plan.loadC (key := 1000) (q := 0) rfl rfl rfl rfl rfl rfl (obj_reads1 rfl) (by first | exact Try.underlying3 | exact Try.underlying9 | exact Try.underlying27 | exact Try.underlying4 | exact Try.underlying5 | exact Try.underlying33 | exact Try.underlying25 | exact Try.underlying23) (by rfl) (by decide) ?_
    | refine Plan.loadC (key := 1000) (q := 1) rfl rfl rfl rfl rfl rfl (obj_reads1 rfl) (by first | exact Try.underlying3 | exact Try.underlying9 | exact Try.underlying27 | exact Try.underlying4 | exact Try.underlying5 | exact Try.underlying33 | exact Try.underlying25 | exact Try.underlying23) (by rfl) (by decide) ?_
    | refine Plan.loadC (key := 1000) (q := 2) rfl rfl rfl rfl rfl rfl (obj_reads1 rfl) (by first | exact Try.underlying3 | exact Try.underlying9 | exact Try.underlying27 | exact Try.underlying4 | exact Try.underlying5 | exact Try.underlying33 | exact Try.underlying25 | exact Try.underlying23) (by rfl) (by decide) ?_
    | refine Plan.eqlPtr rfl rfl rfl rfl (by kernel_rfl) ?_
    | refine Plan.neqPtr rfl rfl rfl rfl (by kernel_rfl) ?_
    | refine J.seq (J.region mixed hI (by kernel_rfl) ?_)
    | refine J.region mixed hI (by kernel_rfl) ?_
    | refine J.seq (J.seq (J.region mixed hI (by kernel_rfl) ?_))
    | refine J.condF rfl ?_
    | refine J.condT rfl ?_
    | refine J.skip ?_)
      exact J.ret (Nrm.retC1 (key := 1000) () rfl rfl rfl trivial (Sub.refl _) Ent.left)
  repeat (first
    | refine Plan.move rfl rfl rfl rfl ?_
    | refine Plan.assign rfl rfl rfl rfl ?_
    | refine Plan.skip rfl rfl ?_
    | refine Plan.extract rfl rfl rfl rfl rfl ?_
    | refine Plan.pick rfl rfl rfl rfl rfl ?_
    | refine Plan.lenStr rfl rfl rfl rfl Try.underlying9 ?_
    | refine Plan.lenE rfl rfl rfl rfl Try.underlying27 ?_
    | (refine Plan.ints rfl rfl rfl rfl rfl rfl ?_; (first | refine Plan.int (i64u8 _) ?_ | refine Plan.int (i64r (by omega)) ?_ | refine Plan.int (u64r (by omega)) ?_ | refine Plan.int (u8r (by omega)) ?_ | refine Plan.int (u16r (by omega)) ?_ | refine Plan.int (quoN (by omega)) ?_ | refine Plan.int (remN _ _) ?_ | refine Plan.int (u8N _) ?_ | skip))
    | refine Plan.un rfl rfl rfl rfl rfl ?_
    | refine Plan.lenB rfl rfl rfl rfl (by first | exact Sub.refl _ | exact Sub.own | exact Sub.old (fun _ h => h) | exact Sub.oldOwn (fun _ h => h) | exact Sub.nilRow | exact Sub.ownLower hB | exact Sub.nilOwn (fun _ h => Nat.le_trans hB h.size)) Try.underlying27 ?_
    | (refine Plan.convInt rfl rfl rfl rfl (by first | exact Try.underlying2 | exact Try.underlying3 | exact Try.underlying5 | exact Try.underlying21 | exact Try.underlying25 | exact Try.underlying33 | exact Try.underlying53 | exact Try.underlying89) (by first | exact Try.underlying2 | exact Try.underlying3 | exact Try.underlying5 | exact Try.underlying21 | exact Try.underlying25 | exact Try.underlying33 | exact Try.underlying53 | exact Try.underlying89) ?_; (first | refine Plan.int (i64u8 _) ?_ | refine Plan.int (i64r (by omega)) ?_ | refine Plan.int (u64r (by omega)) ?_ | refine Plan.int (u8r (by omega)) ?_ | refine Plan.int (u16r (by omega)) ?_ | refine Plan.int (quoN (by omega)) ?_ | refine Plan.int (remN _ _) ?_ | refine Plan.int (u8N _) ?_ | skip))
    | refine Plan.nilOk rfl rfl rfl rfl ?_
    | refine Plan.fieldC rfl rfl rfl rfl (by first | exact Try.underlying65 | exact Try.underlying67 | exact Try.underlying73) rfl (by kernel_rfl) (by first | exact (rfl : _ = 0) | exact (rfl : _ = 1) | exact (rfl : _ = 2) | exact (rfl : _ = 3) | exact (rfl : _ = 4) | exact (rfl : _ = 5)) ?_
    | refine Plan.loadC (key := 1000) (q := 0) rfl rfl rfl rfl rfl rfl (obj_reads1 rfl) (by first | exact Try.underlying3 | exact Try.underlying9 | exact Try.underlying27 | exact Try.underlying4 | exact Try.underlying5 | exact Try.underlying33 | exact Try.underlying25 | exact Try.underlying23) (by rfl) (by decide) ?_
    | refine Plan.loadC (key := 1000) (q := 1) rfl rfl rfl rfl rfl rfl (obj_reads1 rfl) (by first | exact Try.underlying3 | exact Try.underlying9 | exact Try.underlying27 | exact Try.underlying4 | exact Try.underlying5 | exact Try.underlying33 | exact Try.underlying25 | exact Try.underlying23) (by rfl) (by decide) ?_
    | refine Plan.loadC (key := 1000) (q := 2) rfl rfl rfl rfl rfl rfl (obj_reads1 rfl) (by first | exact Try.underlying3 | exact Try.underlying9 | exact Try.underlying27 | exact Try.underlying4 | exact Try.underlying5 | exact Try.underlying33 | exact Try.underlying25 | exact Try.underlying23) (by rfl) (by decide) ?_
    | refine Plan.eqlPtr rfl rfl rfl rfl (by kernel_rfl) ?_
    | refine Plan.neqPtr rfl rfl rfl rfl (by kernel_rfl) ?_
    | refine J.seq (J.region mixed hI (by kernel_rfl) ?_)
    | refine J.region mixed hI (by kernel_rfl) ?_
    | refine J.seq (J.seq (J.region mixed hI (by kernel_rfl) ?_))
    | refine J.condF rfl ?_
    | refine J.condT rfl ?_
    | refine J.skip ?_)
  refine J.condE rfl (fun k4 => ?_) (fun k4 => ?_)
  · repeat (first
    | refine Plan.move rfl rfl rfl rfl ?_
    | refine Plan.assign rfl rfl rfl rfl ?_
    | refine Plan.skip rfl rfl ?_
    | refine Plan.extract rfl rfl rfl rfl rfl ?_
    | refine Plan.pick rfl rfl rfl rfl rfl ?_
    | refine Plan.lenStr rfl rfl rfl rfl Try.underlying9 ?_
    | refine Plan.lenE rfl rfl rfl rfl Try.underlying27 ?_
    | (refine Plan.ints rfl rfl rfl rfl rfl rfl ?_; (first | refine Plan.int (i64u8 _) ?_ | refine Plan.int (i64r (by omega)) ?_ | refine Plan.int (u64r (by omega)) ?_ | refine Plan.int (u8r (by omega)) ?_ | refine Plan.int (u16r (by omega)) ?_ | refine Plan.int (quoN (by omega)) ?_ | refine Plan.int (remN _ _) ?_ | refine Plan.int (u8N _) ?_ | skip))
    | refine Plan.un rfl rfl rfl rfl rfl ?_
    | refine Plan.lenB rfl rfl rfl rfl (by first | exact Sub.refl _ | exact Sub.own | exact Sub.old (fun _ h => h) | exact Sub.oldOwn (fun _ h => h) | exact Sub.nilRow | exact Sub.ownLower hB | exact Sub.nilOwn (fun _ h => Nat.le_trans hB h.size)) Try.underlying27 ?_
    | (refine Plan.convInt rfl rfl rfl rfl (by first | exact Try.underlying2 | exact Try.underlying3 | exact Try.underlying5 | exact Try.underlying21 | exact Try.underlying25 | exact Try.underlying33 | exact Try.underlying53 | exact Try.underlying89) (by first | exact Try.underlying2 | exact Try.underlying3 | exact Try.underlying5 | exact Try.underlying21 | exact Try.underlying25 | exact Try.underlying33 | exact Try.underlying53 | exact Try.underlying89) ?_; (first | refine Plan.int (i64u8 _) ?_ | refine Plan.int (i64r (by omega)) ?_ | refine Plan.int (u64r (by omega)) ?_ | refine Plan.int (u8r (by omega)) ?_ | refine Plan.int (u16r (by omega)) ?_ | refine Plan.int (quoN (by omega)) ?_ | refine Plan.int (remN _ _) ?_ | refine Plan.int (u8N _) ?_ | skip))
    | refine Plan.nilOk rfl rfl rfl rfl ?_
    | refine Plan.fieldC rfl rfl rfl rfl (by first | exact Try.underlying65 | exact Try.underlying67 | exact Try.underlying73) rfl (by kernel_rfl) (by first | exact (rfl : _ = 0) | exact (rfl : _ = 1) | exact (rfl : _ = 2) | exact (rfl : _ = 3) | exact (rfl : _ = 4) | exact (rfl : _ = 5)) ?_
    | refine Plan.loadC (key := 1000) (q := 0) rfl rfl rfl rfl rfl rfl (obj_reads1 rfl) (by first | exact Try.underlying3 | exact Try.underlying9 | exact Try.underlying27 | exact Try.underlying4 | exact Try.underlying5 | exact Try.underlying33 | exact Try.underlying25 | exact Try.underlying23) (by rfl) (by decide) ?_
    | refine Plan.loadC (key := 1000) (q := 1) rfl rfl rfl rfl rfl rfl (obj_reads1 rfl) (by first | exact Try.underlying3 | exact Try.underlying9 | exact Try.underlying27 | exact Try.underlying4 | exact Try.underlying5 | exact Try.underlying33 | exact Try.underlying25 | exact Try.underlying23) (by rfl) (by decide) ?_
    | refine Plan.loadC (key := 1000) (q := 2) rfl rfl rfl rfl rfl rfl (obj_reads1 rfl) (by first | exact Try.underlying3 | exact Try.underlying9 | exact Try.underlying27 | exact Try.underlying4 | exact Try.underlying5 | exact Try.underlying33 | exact Try.underlying25 | exact Try.underlying23) (by rfl) (by decide) ?_
    | refine Plan.eqlPtr rfl rfl rfl rfl (by kernel_rfl) ?_
    | refine Plan.neqPtr rfl rfl rfl rfl (by kernel_rfl) ?_
    | refine J.seq (J.region mixed hI (by kernel_rfl) ?_)
    | refine J.region mixed hI (by kernel_rfl) ?_
    | refine J.seq (J.seq (J.region mixed hI (by kernel_rfl) ?_))
    | refine J.condF rfl ?_
    | refine J.condT rfl ?_
    | refine J.skip ?_)
    have hc := disk_Cut β l f r o.n (by omega) h2
    by_cases hfit : 0 ≤ o.n ∧ o.n ≤ l.length
    · rw [if_pos hfit, if_pos hfit] at hc
      simp only [dStep, if_neg k1, if_neg k2, if_neg k3, if_pos k4, if_pos hfit, Prod.mk.injEq] at hd
      obtain ⟨⟨rfl, rfl⟩, rfl⟩ := hd
      refine Plan.callC (key := 1000) (q := 0) rfl rfl rfl (hc) Try.func41 rfl rfl (by intro _ e; cases e; decide) (by repeat (first | exact Opnds.nil | refine Opnds.cons rfl (by first | exact Sub.refl _ | exact Sub.own | exact Sub.old (fun _ h => h) | exact Sub.oldOwn (fun _ h => h) | exact Sub.nilRow) ?_)) rfl hA rfl ?_
      intro _ _
      repeat (first
    | refine Plan.move rfl rfl rfl rfl ?_
    | refine Plan.assign rfl rfl rfl rfl ?_
    | refine Plan.skip rfl rfl ?_
    | refine Plan.extract rfl rfl rfl rfl rfl ?_
    | refine Plan.pick rfl rfl rfl rfl rfl ?_
    | refine Plan.lenStr rfl rfl rfl rfl Try.underlying9 ?_
    | refine Plan.lenE rfl rfl rfl rfl Try.underlying27 ?_
    | (refine Plan.ints rfl rfl rfl rfl rfl rfl ?_; (first | refine Plan.int (i64u8 _) ?_ | refine Plan.int (i64r (by omega)) ?_ | refine Plan.int (u64r (by omega)) ?_ | refine Plan.int (u8r (by omega)) ?_ | refine Plan.int (u16r (by omega)) ?_ | refine Plan.int (quoN (by omega)) ?_ | refine Plan.int (remN _ _) ?_ | refine Plan.int (u8N _) ?_ | skip))
    | refine Plan.un rfl rfl rfl rfl rfl ?_
    | refine Plan.lenB rfl rfl rfl rfl (by first | exact Sub.refl _ | exact Sub.own | exact Sub.old (fun _ h => h) | exact Sub.oldOwn (fun _ h => h) | exact Sub.nilRow | exact Sub.ownLower hB | exact Sub.nilOwn (fun _ h => Nat.le_trans hB h.size)) Try.underlying27 ?_
    | (refine Plan.convInt rfl rfl rfl rfl (by first | exact Try.underlying2 | exact Try.underlying3 | exact Try.underlying5 | exact Try.underlying21 | exact Try.underlying25 | exact Try.underlying33 | exact Try.underlying53 | exact Try.underlying89) (by first | exact Try.underlying2 | exact Try.underlying3 | exact Try.underlying5 | exact Try.underlying21 | exact Try.underlying25 | exact Try.underlying33 | exact Try.underlying53 | exact Try.underlying89) ?_; (first | refine Plan.int (i64u8 _) ?_ | refine Plan.int (i64r (by omega)) ?_ | refine Plan.int (u64r (by omega)) ?_ | refine Plan.int (u8r (by omega)) ?_ | refine Plan.int (u16r (by omega)) ?_ | refine Plan.int (quoN (by omega)) ?_ | refine Plan.int (remN _ _) ?_ | refine Plan.int (u8N _) ?_ | skip))
    | refine Plan.nilOk rfl rfl rfl rfl ?_
    | refine Plan.fieldC rfl rfl rfl rfl (by first | exact Try.underlying65 | exact Try.underlying67 | exact Try.underlying73) rfl (by kernel_rfl) (by first | exact (rfl : _ = 0) | exact (rfl : _ = 1) | exact (rfl : _ = 2) | exact (rfl : _ = 3) | exact (rfl : _ = 4) | exact (rfl : _ = 5)) ?_
    | refine Plan.loadC (key := 1000) (q := 0) rfl rfl rfl rfl rfl rfl (obj_reads1 rfl) (by first | exact Try.underlying3 | exact Try.underlying9 | exact Try.underlying27 | exact Try.underlying4 | exact Try.underlying5 | exact Try.underlying33 | exact Try.underlying25 | exact Try.underlying23) (by rfl) (by decide) ?_
    | refine Plan.loadC (key := 1000) (q := 1) rfl rfl rfl rfl rfl rfl (obj_reads1 rfl) (by first | exact Try.underlying3 | exact Try.underlying9 | exact Try.underlying27 | exact Try.underlying4 | exact Try.underlying5 | exact Try.underlying33 | exact Try.underlying25 | exact Try.underlying23) (by rfl) (by decide) ?_
    | refine Plan.loadC (key := 1000) (q := 2) rfl rfl rfl rfl rfl rfl (obj_reads1 rfl) (by first | exact Try.underlying3 | exact Try.underlying9 | exact Try.underlying27 | exact Try.underlying4 | exact Try.underlying5 | exact Try.underlying33 | exact Try.underlying25 | exact Try.underlying23) (by rfl) (by decide) ?_
    | refine Plan.eqlPtr rfl rfl rfl rfl (by kernel_rfl) ?_
    | refine Plan.neqPtr rfl rfl rfl rfl (by kernel_rfl) ?_
    | refine J.seq (J.region mixed hI (by kernel_rfl) ?_)
    | refine J.region mixed hI (by kernel_rfl) ?_
    | refine J.seq (J.seq (J.region mixed hI (by kernel_rfl) ?_))
    | refine J.condF rfl ?_
    | refine J.condT rfl ?_
    | refine J.skip ?_)
      exact J.ret (Nrm.retC1 (key := 1000) () rfl rfl rfl trivial (Sub.refl _) Ent.left)
    · rw [if_neg hfit, if_neg hfit] at hc
      simp only [dStep, if_neg k1, if_neg k2, if_neg k3, if_pos k4, if_neg hfit, Prod.mk.injEq] at hd
      obtain ⟨⟨rfl, rfl⟩, rfl⟩ := hd
      refine Plan.callC (key := 1000) (q := 0) rfl rfl rfl (hc) Try.func41 rfl rfl (by intro _ e; cases e; decide) (by repeat (first | exact Opnds.nil | refine Opnds.cons rfl (by first | exact Sub.refl _ | exact Sub.own | exact Sub.old (fun _ h => h) | exact Sub.oldOwn (fun _ h => h) | exact Sub.nilRow) ?_)) rfl hA rfl ?_
      intro _ _
      repeat (first
    | refine Plan.move rfl rfl rfl rfl ?_
    | refine Plan.assign rfl rfl rfl rfl ?_
    | refine Plan.skip rfl rfl ?_
    | refine Plan.extract rfl rfl rfl rfl rfl ?_
    | refine Plan.pick rfl rfl rfl rfl rfl ?_
    | refine Plan.lenStr rfl rfl rfl rfl Try.underlying9 ?_
    | refine Plan.lenE rfl rfl rfl rfl Try.underlying27 ?_
    | (refine Plan.ints rfl rfl rfl rfl rfl rfl ?_; (first | refine Plan.int (i64u8 _) ?_ | refine Plan.int (i64r (by omega)) ?_ | refine Plan.int (u64r (by omega)) ?_ | refine Plan.int (u8r (by omega)) ?_ | refine Plan.int (u16r (by omega)) ?_ | refine Plan.int (quoN (by omega)) ?_ | refine Plan.int (remN _ _) ?_ | refine Plan.int (u8N _) ?_ | skip))
    | refine Plan.un rfl rfl rfl rfl rfl ?_
    | refine Plan.lenB rfl rfl rfl rfl (by first | exact Sub.refl _ | exact Sub.own | exact Sub.old (fun _ h => h) | exact Sub.oldOwn (fun _ h => h) | exact Sub.nilRow | exact Sub.ownLower hB | exact Sub.nilOwn (fun _ h => Nat.le_trans hB h.size)) Try.underlying27 ?_
    | (refine Plan.convInt rfl rfl rfl rfl (by first | exact Try.underlying2 | exact Try.underlying3 | exact Try.underlying5 | exact Try.underlying21 | exact Try.underlying25 | exact Try.underlying33 | exact Try.underlying53 | exact Try.underlying89) (by first | exact Try.underlying2 | exact Try.underlying3 | exact Try.underlying5 | exact Try.underlying21 | exact Try.underlying25 | exact Try.underlying33 | exact Try.underlying53 | exact Try.underlying89) ?_; (first | refine Plan.int (i64u8 _) ?_ | refine Plan.int (i64r (by omega)) ?_ | refine Plan.int (u64r (by omega)) ?_ | refine Plan.int (u8r (by omega)) ?_ | refine Plan.int (u16r (by omega)) ?_ | refine Plan.int (quoN (by omega)) ?_ | refine Plan.int (remN _ _) ?_ | refine Plan.int (u8N _) ?_ | skip))
    | refine Plan.nilOk rfl rfl rfl rfl ?_
    | refine Plan.fieldC rfl rfl rfl rfl (by first | exact Try.underlying65 | exact Try.underlying67 | exact Try.underlying73) rfl (by kernel_rfl) (by first | exact (rfl : _ = 0) | exact (rfl : _ = 1) | exact (rfl : _ = 2) | exact (rfl : _ = 3) | exact (rfl : _ = 4) | exact (rfl : _ = 5)) ?_
    | refine Plan.loadC (key := 1000) (q := 0) rfl rfl rfl rfl rfl rfl (obj_reads1 rfl) (by first | exact Try.underlying3 | exact Try.underlying9 | exact Try.underlying27 | exact Try.underlying4 | exact Try.underlying5 | exact Try.underlying33 | exact Try.underlying25 | exact Try.underlying23) (by rfl) (by decide) ?_
    | refine Plan.loadC (key := 1000) (q := 1) rfl rfl rfl rfl rfl rfl (obj_reads1 rfl) (by first | exact Try.underlying3 | exact Try.underlying9 | exact Try.underlying27 | exact Try.underlying4 | exact Try.underlying5 | exact Try.underlying33 | exact Try.underlying25 | exact Try.underlying23) (by rfl) (by decide) ?_
    | refine Plan.loadC (key := 1000) (q := 2) rfl rfl rfl rfl rfl rfl (obj_reads1 rfl) (by first | exact Try.underlying3 | exact Try.underlying9 | exact Try.underlying27 | exact Try.underlying4 | exact Try.underlying5 | exact Try.underlying33 | exact Try.underlying25 | exact Try.underlying23) (by rfl) (by decide) ?_
    | refine Plan.eqlPtr rfl rfl rfl rfl (by kernel_rfl) ?_
    | refine Plan.neqPtr rfl rfl rfl rfl (by kernel_rfl) ?_
    | refine J.seq (J.region mixed hI (by kernel_rfl) ?_)
    | refine J.region mixed hI (by kernel_rfl) ?_
    | refine J.seq (J.seq (J.region mixed hI (by kernel_rfl) ?_))
    | refine J.condF rfl ?_
    | refine J.condT rfl ?_
    | refine J.skip ?_)
      exact J.ret (Nrm.retC1 (key := 1000) () rfl rfl rfl trivial (Sub.refl _) Ent.left)
  repeat (first
    | refine Plan.move rfl rfl rfl rfl ?_
    | refine Plan.assign rfl rfl rfl rfl ?_
    | refine Plan.skip rfl rfl ?_
    | refine Plan.extract rfl rfl rfl rfl rfl ?_
    | refine Plan.pick rfl rfl rfl rfl rfl ?_
    | refine Plan.lenStr rfl rfl rfl rfl Try.underlying9 ?_
    | refine Plan.lenE rfl rfl rfl rfl Try.underlying27 ?_
    | (refine Plan.ints rfl rfl rfl rfl rfl rfl ?_; (first | refine Plan.int (i64u8 _) ?_ | refine Plan.int (i64r (by omega)) ?_ | refine Plan.int (u64r (by omega)) ?_ | refine Plan.int (u8r (by omega)) ?_ | refine Plan.int (u16r (by omega)) ?_ | refine Plan.int (quoN (by omega)) ?_ | refine Plan.int (remN _ _) ?_ | refine Plan.int (u8N _) ?_ | skip))
    | refine Plan.un rfl rfl rfl rfl rfl ?_
    | refine Plan.lenB rfl rfl rfl rfl (by first | exact Sub.refl _ | exact Sub.own | exact Sub.old (fun _ h => h) | exact Sub.oldOwn (fun _ h => h) | exact Sub.nilRow | exact Sub.ownLower hB | exact Sub.nilOwn (fun _ h => Nat.le_trans hB h.size)) Try.underlying27 ?_
    | (refine Plan.convInt rfl rfl rfl rfl (by first | exact Try.underlying2 | exact Try.underlying3 | exact Try.underlying5 | exact Try.underlying21 | exact Try.underlying25 | exact Try.underlying33 | exact Try.underlying53 | exact Try.underlying89) (by first | exact Try.underlying2 | exact Try.underlying3 | exact Try.underlying5 | exact Try.underlying21 | exact Try.underlying25 | exact Try.underlying33 | exact Try.underlying53 | exact Try.underlying89) ?_; (first | refine Plan.int (i64u8 _) ?_ | refine Plan.int (i64r (by omega)) ?_ | refine Plan.int (u64r (by omega)) ?_ | refine Plan.int (u8r (by omega)) ?_ | refine Plan.int (u16r (by omega)) ?_ | refine Plan.int (quoN (by omega)) ?_ | refine Plan.int (remN _ _) ?_ | refine Plan.int (u8N _) ?_ | skip))
    | refine Plan.nilOk rfl rfl rfl rfl ?_
    | refine Plan.fieldC rfl rfl rfl rfl (by first | exact Try.underlying65 | exact Try.underlying67 | exact Try.underlying73) rfl (by kernel_rfl) (by first | exact (rfl : _ = 0) | exact (rfl : _ = 1) | exact (rfl : _ = 2) | exact (rfl : _ = 3) | exact (rfl : _ = 4) | exact (rfl : _ = 5)) ?_
    | refine Plan.loadC (key := 1000) (q := 0) rfl rfl rfl rfl rfl rfl (obj_reads1 rfl) (by first | exact Try.underlying3 | exact Try.underlying9 | exact Try.underlying27 | exact Try.underlying4 | exact Try.underlying5 | exact Try.underlying33 | exact Try.underlying25 | exact Try.underlying23) (by rfl) (by decide) ?_
    | refine Plan.loadC (key := 1000) (q := 1) rfl rfl rfl rfl rfl rfl (obj_reads1 rfl) (by first | exact Try.underlying3 | exact Try.underlying9 | exact Try.underlying27 | exact Try.underlying4 | exact Try.underlying5 | exact Try.underlying33 | exact Try.underlying25 | exact Try.underlying23) (by rfl) (by decide) ?_
    | refine Plan.loadC (key := 1000) (q := 2) rfl rfl rfl rfl rfl rfl (obj_reads1 rfl) (by first | exact Try.underlying3 | exact Try.underlying9 | exact Try.underlying27 | exact Try.underlying4 | exact Try.underlying5 | exact Try.underlying33 | exact Try.underlying25 | exact Try.underlying23) (by rfl) (by decide) ?_
    | refine Plan.eqlPtr rfl rfl rfl rfl (by kernel_rfl) ?_
    | refine Plan.neqPtr rfl rfl rfl rfl (by kernel_rfl) ?_
    | refine J.seq (J.region mixed hI (by kernel_rfl) ?_)
    | refine J.region mixed hI (by kernel_rfl) ?_
    | refine J.seq (J.seq (J.region mixed hI (by kernel_rfl) ?_))
    | refine J.condF rfl ?_
    | refine J.condT rfl ?_
    | refine J.skip ?_)
  refine J.condE rfl (fun k5 => ?_) (fun k5 => ?_)
  · simp only [dStep, if_neg k1, if_neg k2, if_neg k3, if_neg k4, if_pos k5, Prod.mk.injEq] at hd
    obtain ⟨⟨rfl, rfl⟩, rfl⟩ := hd
    repeat (first
    | refine Plan.move rfl rfl rfl rfl ?_
    | refine Plan.assign rfl rfl rfl rfl ?_
    | refine Plan.skip rfl rfl ?_
    | refine Plan.extract rfl rfl rfl rfl rfl ?_
    | refine Plan.pick rfl rfl rfl rfl rfl ?_
    | refine Plan.lenStr rfl rfl rfl rfl Try.underlying9 ?_
    | refine Plan.lenE rfl rfl rfl rfl Try.underlying27 ?_
    | (refine Plan.ints rfl rfl rfl rfl rfl rfl ?_; (first | refine Plan.int (i64u8 _) ?_ | refine Plan.int (i64r (by omega)) ?_ | refine Plan.int (u64r (by omega)) ?_ | refine Plan.int (u8r (by omega)) ?_ | refine Plan.int (u16r (by omega)) ?_ | refine Plan.int (quoN (by omega)) ?_ | refine Plan.int (remN _ _) ?_ | refine Plan.int (u8N _) ?_ | skip))
    | refine Plan.un rfl rfl rfl rfl rfl ?_
    | refine Plan.lenB rfl rfl rfl rfl (by first | exact Sub.refl _ | exact Sub.own | exact Sub.old (fun _ h => h) | exact Sub.oldOwn (fun _ h => h) | exact Sub.nilRow | exact Sub.ownLower hB | exact Sub.nilOwn (fun _ h => Nat.le_trans hB h.size)) Try.underlying27 ?_
    | (refine Plan.convInt rfl rfl rfl rfl (by first | exact Try.underlying2 | exact Try.underlying3 | exact Try.underlying5 | exact Try.underlying21 | exact Try.underlying25 | exact Try.underlying33 | exact Try.underlying53 | exact Try.underlying89) (by first | exact Try.underlying2 | exact Try.underlying3 | exact Try.underlying5 | exact Try.underlying21 | exact Try.underlying25 | exact Try.underlying33 | exact Try.underlying53 | exact Try.underlying89) ?_; (first | refine Plan.int (i64u8 _) ?_ | refine Plan.int (i64r (by omega)) ?_ | refine Plan.int (u64r (by omega)) ?_ | refine Plan.int (u8r (by omega)) ?_ | refine Plan.int (u16r (by omega)) ?_ | refine Plan.int (quoN (by omega)) ?_ | refine Plan.int (remN _ _) ?_ | refine Plan.int (u8N _) ?_ | skip))
    | refine Plan.nilOk rfl rfl rfl rfl ?_
    | refine Plan.fieldC rfl rfl rfl rfl (by first | exact Try.underlying65 | exact Try.underlying67 | exact Try.underlying73) rfl (by kernel_rfl) (by first | exact (rfl : _ = 0) | exact (rfl : _ = 1) | exact (rfl : _ = 2) | exact (rfl : _ = 3) | exact (rfl : _ = 4) | exact (rfl : _ = 5)) ?_
    | refine Plan.loadC (key := 1000) (q := 0) rfl rfl rfl rfl rfl rfl (obj_reads1 rfl) (by first | exact Try.underlying3 | exact Try.underlying9 | exact Try.underlying27 | exact Try.underlying4 | exact Try.underlying5 | exact Try.underlying33 | exact Try.underlying25 | exact Try.underlying23) (by rfl) (by decide) ?_
    | refine Plan.loadC (key := 1000) (q := 1) rfl rfl rfl rfl rfl rfl (obj_reads1 rfl) (by first | exact Try.underlying3 | exact Try.underlying9 | exact Try.underlying27 | exact Try.underlying4 | exact Try.underlying5 | exact Try.underlying33 | exact Try.underlying25 | exact Try.underlying23) (by rfl) (by decide) ?_
    | refine Plan.loadC (key := 1000) (q := 2) rfl rfl rfl rfl rfl rfl (obj_reads1 rfl) (by first | exact Try.underlying3 | exact Try.underlying9 | exact Try.underlying27 | exact Try.underlying4 | exact Try.underlying5 | exact Try.underlying33 | exact Try.underlying25 | exact Try.underlying23) (by rfl) (by decide) ?_
    | refine Plan.eqlPtr rfl rfl rfl rfl (by kernel_rfl) ?_
    | refine Plan.neqPtr rfl rfl rfl rfl (by kernel_rfl) ?_
    | refine J.seq (J.region mixed hI (by kernel_rfl) ?_)
    | refine J.region mixed hI (by kernel_rfl) ?_
    | refine J.seq (J.seq (J.region mixed hI (by kernel_rfl) ?_))
    | refine J.condF rfl ?_
    | refine J.condT rfl ?_
    | refine J.skip ?_)
    refine Plan.callC (key := 1000) (q := 0) rfl rfl rfl (disk_Crash β l f r o.n o.at_ o.turn (by omega) h.1 h2 h3 h4) Try.func23 rfl rfl (by intro _ e; cases e; decide) (by repeat (first | exact Opnds.nil | refine Opnds.cons rfl (by first | exact Sub.refl _ | exact Sub.own | exact Sub.old (fun _ h => h) | exact Sub.oldOwn (fun _ h => h) | exact Sub.nilRow) ?_)) rfl hA rfl ?_
    intro _ _
    repeat (first
    | refine Plan.move rfl rfl rfl rfl ?_
    | refine Plan.assign rfl rfl rfl rfl ?_
    | refine Plan.skip rfl rfl ?_
    | refine Plan.extract rfl rfl rfl rfl rfl ?_
    | refine Plan.pick rfl rfl rfl rfl rfl ?_
    | refine Plan.lenStr rfl rfl rfl rfl Try.underlying9 ?_
    | refine Plan.lenE rfl rfl rfl rfl Try.underlying27 ?_
    | (refine Plan.ints rfl rfl rfl rfl rfl rfl ?_; (first | refine Plan.int (i64u8 _) ?_ | refine Plan.int (i64r (by omega)) ?_ | refine Plan.int (u64r (by omega)) ?_ | refine Plan.int (u8r (by omega)) ?_ | refine Plan.int (u16r (by omega)) ?_ | refine Plan.int (quoN (by omega)) ?_ | refine Plan.int (remN _ _) ?_ | refine Plan.int (u8N _) ?_ | skip))
    | refine Plan.un rfl rfl rfl rfl rfl ?_
    | refine Plan.lenB rfl rfl rfl rfl (by first | exact Sub.refl _ | exact Sub.own | exact Sub.old (fun _ h => h) | exact Sub.oldOwn (fun _ h => h) | exact Sub.nilRow | exact Sub.ownLower hB | exact Sub.nilOwn (fun _ h => Nat.le_trans hB h.size)) Try.underlying27 ?_
    | (refine Plan.convInt rfl rfl rfl rfl (by first | exact Try.underlying2 | exact Try.underlying3 | exact Try.underlying5 | exact Try.underlying21 | exact Try.underlying25 | exact Try.underlying33 | exact Try.underlying53 | exact Try.underlying89) (by first | exact Try.underlying2 | exact Try.underlying3 | exact Try.underlying5 | exact Try.underlying21 | exact Try.underlying25 | exact Try.underlying33 | exact Try.underlying53 | exact Try.underlying89) ?_; (first | refine Plan.int (i64u8 _) ?_ | refine Plan.int (i64r (by omega)) ?_ | refine Plan.int (u64r (by omega)) ?_ | refine Plan.int (u8r (by omega)) ?_ | refine Plan.int (u16r (by omega)) ?_ | refine Plan.int (quoN (by omega)) ?_ | refine Plan.int (remN _ _) ?_ | refine Plan.int (u8N _) ?_ | skip))
    | refine Plan.nilOk rfl rfl rfl rfl ?_
    | refine Plan.fieldC rfl rfl rfl rfl (by first | exact Try.underlying65 | exact Try.underlying67 | exact Try.underlying73) rfl (by kernel_rfl) (by first | exact (rfl : _ = 0) | exact (rfl : _ = 1) | exact (rfl : _ = 2) | exact (rfl : _ = 3) | exact (rfl : _ = 4) | exact (rfl : _ = 5)) ?_
    | refine Plan.loadC (key := 1000) (q := 0) rfl rfl rfl rfl rfl rfl (obj_reads1 rfl) (by first | exact Try.underlying3 | exact Try.underlying9 | exact Try.underlying27 | exact Try.underlying4 | exact Try.underlying5 | exact Try.underlying33 | exact Try.underlying25 | exact Try.underlying23) (by rfl) (by decide) ?_
    | refine Plan.loadC (key := 1000) (q := 1) rfl rfl rfl rfl rfl rfl (obj_reads1 rfl) (by first | exact Try.underlying3 | exact Try.underlying9 | exact Try.underlying27 | exact Try.underlying4 | exact Try.underlying5 | exact Try.underlying33 | exact Try.underlying25 | exact Try.underlying23) (by rfl) (by decide) ?_
    | refine Plan.loadC (key := 1000) (q := 2) rfl rfl rfl rfl rfl rfl (obj_reads1 rfl) (by first | exact Try.underlying3 | exact Try.underlying9 | exact Try.underlying27 | exact Try.underlying4 | exact Try.underlying5 | exact Try.underlying33 | exact Try.underlying25 | exact Try.underlying23) (by rfl) (by decide) ?_
    | refine Plan.eqlPtr rfl rfl rfl rfl (by kernel_rfl) ?_
    | refine Plan.neqPtr rfl rfl rfl rfl (by kernel_rfl) ?_
    | refine J.seq (J.region mixed hI (by kernel_rfl) ?_)
    | refine J.region mixed hI (by kernel_rfl) ?_
    | refine J.seq (J.seq (J.region mixed hI (by kernel_rfl) ?_))
    | refine J.condF rfl ?_
    | refine J.condT rfl ?_
    | refine J.skip ?_)
    exact J.ret (Nrm.retC1 (key := 1000) () rfl rfl rfl trivial (Sub.refl _) Ent.left)
  · simp only [dStep, if_neg k1, if_neg k2, if_neg k3, if_neg k4, if_neg k5, Prod.mk.injEq] at hd
    obtain ⟨⟨rfl, rfl⟩, rfl⟩ := hd
    repeat (first
    | refine Plan.move rfl rfl rfl rfl ?_
    | refine Plan.assign rfl rfl rfl rfl ?_
    | refine Plan.skip rfl rfl ?_
    | refine Plan.extract rfl rfl rfl rfl rfl ?_
    | refine Plan.pick rfl rfl rfl rfl rfl ?_
    | refine Plan.lenStr rfl rfl rfl rfl Try.underlying9 ?_
    | refine Plan.lenE rfl rfl rfl rfl Try.underlying27 ?_
    | (refine Plan.ints rfl rfl rfl rfl rfl rfl ?_; (first | refine Plan.int (i64u8 _) ?_ | refine Plan.int (i64r (by omega)) ?_ | refine Plan.int (u64r (by omega)) ?_ | refine Plan.int (u8r (by omega)) ?_ | refine Plan.int (u16r (by omega)) ?_ | refine Plan.int (quoN (by omega)) ?_ | refine Plan.int (remN _ _) ?_ | refine Plan.int (u8N _) ?_ | skip))
    | refine Plan.un rfl rfl rfl rfl rfl ?_
    | refine Plan.lenB rfl rfl rfl rfl (by first | exact Sub.refl _ | exact Sub.own | exact Sub.old (fun _ h => h) | exact Sub.oldOwn (fun _ h => h) | exact Sub.nilRow | exact Sub.ownLower hB | exact Sub.nilOwn (fun _ h => Nat.le_trans hB h.size)) Try.underlying27 ?_
    | (refine Plan.convInt rfl rfl rfl rfl (by first | exact Try.underlying2 | exact Try.underlying3 | exact Try.underlying5 | exact Try.underlying21 | exact Try.underlying25 | exact Try.underlying33 | exact Try.underlying53 | exact Try.underlying89) (by first | exact Try.underlying2 | exact Try.underlying3 | exact Try.underlying5 | exact Try.underlying21 | exact Try.underlying25 | exact Try.underlying33 | exact Try.underlying53 | exact Try.underlying89) ?_; (first | refine Plan.int (i64u8 _) ?_ | refine Plan.int (i64r (by omega)) ?_ | refine Plan.int (u64r (by omega)) ?_ | refine Plan.int (u8r (by omega)) ?_ | refine Plan.int (u16r (by omega)) ?_ | refine Plan.int (quoN (by omega)) ?_ | refine Plan.int (remN _ _) ?_ | refine Plan.int (u8N _) ?_ | skip))
    | refine Plan.nilOk rfl rfl rfl rfl ?_
    | refine Plan.fieldC rfl rfl rfl rfl (by first | exact Try.underlying65 | exact Try.underlying67 | exact Try.underlying73) rfl (by kernel_rfl) (by first | exact (rfl : _ = 0) | exact (rfl : _ = 1) | exact (rfl : _ = 2) | exact (rfl : _ = 3) | exact (rfl : _ = 4) | exact (rfl : _ = 5)) ?_
    | refine Plan.loadC (key := 1000) (q := 0) rfl rfl rfl rfl rfl rfl (obj_reads1 rfl) (by first | exact Try.underlying3 | exact Try.underlying9 | exact Try.underlying27 | exact Try.underlying4 | exact Try.underlying5 | exact Try.underlying33 | exact Try.underlying25 | exact Try.underlying23) (by rfl) (by decide) ?_
    | refine Plan.loadC (key := 1000) (q := 1) rfl rfl rfl rfl rfl rfl (obj_reads1 rfl) (by first | exact Try.underlying3 | exact Try.underlying9 | exact Try.underlying27 | exact Try.underlying4 | exact Try.underlying5 | exact Try.underlying33 | exact Try.underlying25 | exact Try.underlying23) (by rfl) (by decide) ?_
    | refine Plan.loadC (key := 1000) (q := 2) rfl rfl rfl rfl rfl rfl (obj_reads1 rfl) (by first | exact Try.underlying3 | exact Try.underlying9 | exact Try.underlying27 | exact Try.underlying4 | exact Try.underlying5 | exact Try.underlying33 | exact Try.underlying25 | exact Try.underlying23) (by rfl) (by decide) ?_
    | refine Plan.eqlPtr rfl rfl rfl rfl (by kernel_rfl) ?_
    | refine Plan.neqPtr rfl rfl rfl rfl (by kernel_rfl) ?_
    | refine J.seq (J.region mixed hI (by kernel_rfl) ?_)
    | refine J.region mixed hI (by kernel_rfl) ?_
    | refine J.seq (J.seq (J.region mixed hI (by kernel_rfl) ?_))
    | refine J.condF rfl ?_
    | refine J.condT rfl ?_
    | refine J.skip ?_)
    exact J.ret (Nrm.retC1 (key := 1000) () rfl rfl rfl trivial (Sub.refl _) Ent.left)
end Go.Proofs.Ytdfdhhepbkejpaa
