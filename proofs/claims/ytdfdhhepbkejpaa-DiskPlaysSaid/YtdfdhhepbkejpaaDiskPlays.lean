/-
  The law DiskPlays returns true for all arguments.
-/
import Derived.Test.YtdfdhhepbkejpaaDiskOps
namespace Go.Proofs.Ytdfdhhepbkejpaa
open Go.Free Go.RowKit Go.Proofs
set_option maxHeartbeats 4000000

def playE (w0 : World) (sc : List OpV) (β γ R : Nat) (s : Nat × List UInt8 × Nat) : Env :=
  [(1, old w0 (opsF sc)), (5, .ex (ptr β)), (6, .ex (ptr γ)), (35, .ex (.int .i64 sc.length)), (36, .ex (.int .i64 s.1)), (1000, heap (newB w0) [diskC β s.2.1 s.2.2 R, refC γ s.2.1 s.2.2 R])]
def midE (w0 : World) (sc : List OpV) (β γ R ξ : Nat) (i : Nat) (cs : List Value) (l : List UInt8) (f : Nat) (e : Int) : Env :=
  [(1, old w0 (opsF sc)), (5, .ex (ptr β)), (6, .ex (ptr γ)), (35, .ex (.int .i64 sc.length)), (36, .ex (.int .i64 i)), (9, .ex (.int .i64 e)), (10, .ex (.int .i64 e)), (1000, heap (newB w0) [diskC β l f R, refC γ l f R, obj ξ cs])]

theorem lawPlays (room : Int) (sc : List OpV) (hroom : in64 room) (hl : sc.length ≤ 9223372036854775807) (hok : ∀ o ∈ sc, o.okV) :
    Spc Try.prog 13 [.ex (.int .i64 room), opsF sc] fun _ => .ex (.bool true) := by
  refine Spc.intro Try.func13 rfl (Nat.le_of_ble_eq_true rfl) fun w0 => ?_
  have hI := hIb w0
  have hA := Own.below w0
  refine J.heap0 1000 (newB w0) ?_
  have hR : clampR room ≤ 65536 := by unfold clampR; omega
  obtain ⟨R, hRe⟩ : ∃ R, R = clampR room := ⟨_, rfl⟩
  have hnew : SpcC Try.prog 17 [.ex (.int .i64 room)] emp (fun _ : Nat => True) (fun β => .ex (ptr β)) (fun β => diskC β [] 0 R) := by rw [hRe]; exact disk_New room
  have hnewR : SpcC Try.prog 34 [.ex (.int .i64 room)] emp (fun _ : Nat => True) (fun β => .ex (ptr β)) (fun β => refC β [] 0 R) := by rw [hRe]; exact ref_NewD room
  rw [← hRe] at hR
  repeat (first
    | refine Plan.move rfl rfl rfl rfl ?_
    | refine Plan.assign rfl rfl rfl rfl ?_
    | refine Plan.skip rfl rfl ?_
    | refine Plan.extract rfl rfl rfl rfl rfl ?_
    | refine Plan.pick rfl rfl rfl rfl rfl ?_
    | refine Plan.lenStr rfl rfl rfl rfl Try.underlying9 ?_
    | refine Plan.lenE rfl rfl rfl rfl Try.underlying27 ?_
    | (refine Plan.ints rfl rfl rfl rfl rfl rfl ?_; (first | refine Plan.int (i64u8 _) ?_ | refine Plan.int (i64r (by omega)) ?_ | refine Plan.int (u64r (by omega)) ?_ | refine Plan.int (u8r (by omega)) ?_ | refine Plan.int (u16r (by omega)) ?_ | refine Plan.int (quoN (by omega)) ?_ | refine Plan.int (remN _ _) ?_ | refine Plan.int (u8N _) ?_ | skip))
    | refine Plan.un rfl rfl rfl rfl rfl ?_
    | refine Plan.lenB rfl rfl rfl rfl (by first | exact Sub.refl _ | exact Sub.own | exact Sub.old (fun _ h => h) | exact Sub.oldOwn (fun _ h => h) | exact Sub.nilRow | exact Sub.ownLower hB | exact Sub.nilOwn (fun _ h => Nat.le_trans hB h.size)) Try.underlying27 ?_
    | (refine Plan.convInt rfl rfl rfl rfl (by first | exact Try.underlying2 | exact Try.underlying3 | exact Try.underlying5 | exact Try.underlying21 | exact Try.underlying25 | exact Try.underlying33 | exact Try.underlying53 | exact Try.underlying89) (by first | exact Try.underlying2 | exact Try.underlying3 | exact Try.underlying5 | exact Try.underlying21 | exact Try.underlying25 | exact Try.underlying33 | exact Try.underlying53 | exact Try.underlying89) ?_; (first | refine Plan.int (i64u8 _) ?_ | refine Plan.int (i64r (by omega)) ?_ | refine Plan.int (u64r (by omega)) ?_ | refine Plan.int (u8r (by omega)) ?_ | refine Plan.int (u16r (by omega)) ?_ | refine Plan.int (quoN (by omega)) ?_ | refine Plan.int (remN _ _) ?_ | refine Plan.int (u8N _) ?_ | skip))
    | refine Plan.nilOk rfl rfl rfl rfl ?_
    | refine Plan.fieldC (m := 0) rfl rfl rfl rfl (by first | exact Try.underlying65 | exact Try.underlying67 | exact Try.underlying73) rfl (by kernel_rfl) (by first | exact (show _ = 0 from rfl) | exact (show _ = 1 from rfl) | exact (show _ = 2 from rfl) | exact (show _ = 3 from rfl) | exact (show _ = 4 from rfl) | exact (show _ = 5 from rfl) | exact (show _ = 6 from rfl) | exact (show _ = 7 from rfl) | exact (show _ = 8 from rfl) | exact (show _ = 9 from rfl) | exact (show _ = 10 from rfl) | exact (show _ = 11 from rfl) | exact (show _ = 12 from rfl) | exact (show _ = 13 from rfl) | exact (show _ = 14 from rfl) | exact (show _ = 15 from rfl) | exact (show _ = 16 from rfl) | exact (show _ = 17 from rfl) | exact (show _ = 18 from rfl) | exact (show _ = 19 from rfl) | exact (show _ = 20 from rfl) | exact (show _ = 21 from rfl) | exact (show _ = 22 from rfl) | exact (show _ = 23 from rfl) | exact (show _ = 24 from rfl) | exact (show _ = 25 from rfl) | exact (show _ = 26 from rfl) | exact (show _ = 27 from rfl) | exact (show _ = 28 from rfl) | exact (show _ = 29 from rfl) | exact (show _ = 30 from rfl) | exact (show _ = 31 from rfl)) ?_
    | refine Plan.loadC (key := 1000) (q := 0) rfl rfl rfl rfl rfl rfl (obj_reads1 rfl) (by first | exact Try.underlying3 | exact Try.underlying9 | exact Try.underlying27 | exact Try.underlying4 | exact Try.underlying5 | exact Try.underlying33) (by rfl) (by decide) ?_
    | refine Plan.loadC (key := 1000) (q := 1) rfl rfl rfl rfl rfl rfl (obj_reads1 rfl) (by first | exact Try.underlying3 | exact Try.underlying9 | exact Try.underlying27 | exact Try.underlying4 | exact Try.underlying5 | exact Try.underlying33) (by rfl) (by decide) ?_
    | refine Plan.loadC (key := 1000) (q := 2) rfl rfl rfl rfl rfl rfl (obj_reads1 rfl) (by first | exact Try.underlying3 | exact Try.underlying9 | exact Try.underlying27 | exact Try.underlying4 | exact Try.underlying5 | exact Try.underlying33) (by rfl) (by decide) ?_
    | refine Plan.eqlPtr rfl rfl rfl rfl (by kernel_rfl) ?_
    | refine Plan.neqPtr rfl rfl rfl rfl (by kernel_rfl) ?_
    | refine J.seq (J.region mixed hI (by kernel_rfl) ?_)
    | refine J.region mixed hI (by kernel_rfl) ?_
    | refine J.seq (J.seq (J.region mixed hI (by kernel_rfl) ?_))
    | refine J.condF rfl ?_
    | refine J.condT rfl ?_
    | refine J.skip ?_)
  refine Plan.call (B := w0.heap.size) rfl rfl rfl (awakeD_fn) Try.func16 rfl rfl (hBb w0) (by repeat (first | exact Opnds.nil | refine Opnds.cons rfl (by first | exact Sub.refl _ | exact Sub.own | exact Sub.old (fun _ h => h) | exact Sub.oldOwn (fun _ h => h) | exact Sub.nilRow) ?_)) ?_
  repeat (first
    | refine Plan.move rfl rfl rfl rfl ?_
    | refine Plan.assign rfl rfl rfl rfl ?_
    | refine Plan.skip rfl rfl ?_
    | refine Plan.extract rfl rfl rfl rfl rfl ?_
    | refine Plan.pick rfl rfl rfl rfl rfl ?_
    | refine Plan.lenStr rfl rfl rfl rfl Try.underlying9 ?_
    | refine Plan.lenE rfl rfl rfl rfl Try.underlying27 ?_
    | (refine Plan.ints rfl rfl rfl rfl rfl rfl ?_; (first | refine Plan.int (i64u8 _) ?_ | refine Plan.int (i64r (by omega)) ?_ | refine Plan.int (u64r (by omega)) ?_ | refine Plan.int (u8r (by omega)) ?_ | refine Plan.int (u16r (by omega)) ?_ | refine Plan.int (quoN (by omega)) ?_ | refine Plan.int (remN _ _) ?_ | refine Plan.int (u8N _) ?_ | skip))
    | refine Plan.un rfl rfl rfl rfl rfl ?_
    | refine Plan.lenB rfl rfl rfl rfl (by first | exact Sub.refl _ | exact Sub.own | exact Sub.old (fun _ h => h) | exact Sub.oldOwn (fun _ h => h) | exact Sub.nilRow | exact Sub.ownLower hB | exact Sub.nilOwn (fun _ h => Nat.le_trans hB h.size)) Try.underlying27 ?_
    | (refine Plan.convInt rfl rfl rfl rfl (by first | exact Try.underlying2 | exact Try.underlying3 | exact Try.underlying5 | exact Try.underlying21 | exact Try.underlying25 | exact Try.underlying33 | exact Try.underlying53 | exact Try.underlying89) (by first | exact Try.underlying2 | exact Try.underlying3 | exact Try.underlying5 | exact Try.underlying21 | exact Try.underlying25 | exact Try.underlying33 | exact Try.underlying53 | exact Try.underlying89) ?_; (first | refine Plan.int (i64u8 _) ?_ | refine Plan.int (i64r (by omega)) ?_ | refine Plan.int (u64r (by omega)) ?_ | refine Plan.int (u8r (by omega)) ?_ | refine Plan.int (u16r (by omega)) ?_ | refine Plan.int (quoN (by omega)) ?_ | refine Plan.int (remN _ _) ?_ | refine Plan.int (u8N _) ?_ | skip))
    | refine Plan.nilOk rfl rfl rfl rfl ?_
    | refine Plan.fieldC (m := 0) rfl rfl rfl rfl (by first | exact Try.underlying65 | exact Try.underlying67 | exact Try.underlying73) rfl (by kernel_rfl) (by first | exact (show _ = 0 from rfl) | exact (show _ = 1 from rfl) | exact (show _ = 2 from rfl) | exact (show _ = 3 from rfl) | exact (show _ = 4 from rfl) | exact (show _ = 5 from rfl) | exact (show _ = 6 from rfl) | exact (show _ = 7 from rfl) | exact (show _ = 8 from rfl) | exact (show _ = 9 from rfl) | exact (show _ = 10 from rfl) | exact (show _ = 11 from rfl) | exact (show _ = 12 from rfl) | exact (show _ = 13 from rfl) | exact (show _ = 14 from rfl) | exact (show _ = 15 from rfl) | exact (show _ = 16 from rfl) | exact (show _ = 17 from rfl) | exact (show _ = 18 from rfl) | exact (show _ = 19 from rfl) | exact (show _ = 20 from rfl) | exact (show _ = 21 from rfl) | exact (show _ = 22 from rfl) | exact (show _ = 23 from rfl) | exact (show _ = 24 from rfl) | exact (show _ = 25 from rfl) | exact (show _ = 26 from rfl) | exact (show _ = 27 from rfl) | exact (show _ = 28 from rfl) | exact (show _ = 29 from rfl) | exact (show _ = 30 from rfl) | exact (show _ = 31 from rfl)) ?_
    | refine Plan.loadC (key := 1000) (q := 0) rfl rfl rfl rfl rfl rfl (obj_reads1 rfl) (by first | exact Try.underlying3 | exact Try.underlying9 | exact Try.underlying27 | exact Try.underlying4 | exact Try.underlying5 | exact Try.underlying33) (by rfl) (by decide) ?_
    | refine Plan.loadC (key := 1000) (q := 1) rfl rfl rfl rfl rfl rfl (obj_reads1 rfl) (by first | exact Try.underlying3 | exact Try.underlying9 | exact Try.underlying27 | exact Try.underlying4 | exact Try.underlying5 | exact Try.underlying33) (by rfl) (by decide) ?_
    | refine Plan.loadC (key := 1000) (q := 2) rfl rfl rfl rfl rfl rfl (obj_reads1 rfl) (by first | exact Try.underlying3 | exact Try.underlying9 | exact Try.underlying27 | exact Try.underlying4 | exact Try.underlying5 | exact Try.underlying33) (by rfl) (by decide) ?_
    | refine Plan.eqlPtr rfl rfl rfl rfl (by kernel_rfl) ?_
    | refine Plan.neqPtr rfl rfl rfl rfl (by kernel_rfl) ?_
    | refine J.seq (J.region mixed hI (by kernel_rfl) ?_)
    | refine J.region mixed hI (by kernel_rfl) ?_
    | refine J.seq (J.seq (J.region mixed hI (by kernel_rfl) ?_))
    | refine J.condF rfl ?_
    | refine J.condT rfl ?_
    | refine J.skip ?_)
  refine Plan.call (B := w0.heap.size) rfl rfl rfl (few_fn sc hl) Try.func33 rfl rfl (hBb w0) (by repeat (first | exact Opnds.nil | refine Opnds.cons rfl (by first | exact Sub.refl _ | exact Sub.own | exact Sub.old (fun _ h => h) | exact Sub.oldOwn (fun _ h => h) | exact Sub.nilRow) ?_)) ?_
  repeat (first
    | refine Plan.move rfl rfl rfl rfl ?_
    | refine Plan.assign rfl rfl rfl rfl ?_
    | refine Plan.skip rfl rfl ?_
    | refine Plan.extract rfl rfl rfl rfl rfl ?_
    | refine Plan.pick rfl rfl rfl rfl rfl ?_
    | refine Plan.lenStr rfl rfl rfl rfl Try.underlying9 ?_
    | refine Plan.lenE rfl rfl rfl rfl Try.underlying27 ?_
    | (refine Plan.ints rfl rfl rfl rfl rfl rfl ?_; (first | refine Plan.int (i64u8 _) ?_ | refine Plan.int (i64r (by omega)) ?_ | refine Plan.int (u64r (by omega)) ?_ | refine Plan.int (u8r (by omega)) ?_ | refine Plan.int (u16r (by omega)) ?_ | refine Plan.int (quoN (by omega)) ?_ | refine Plan.int (remN _ _) ?_ | refine Plan.int (u8N _) ?_ | skip))
    | refine Plan.un rfl rfl rfl rfl rfl ?_
    | refine Plan.lenB rfl rfl rfl rfl (by first | exact Sub.refl _ | exact Sub.own | exact Sub.old (fun _ h => h) | exact Sub.oldOwn (fun _ h => h) | exact Sub.nilRow | exact Sub.ownLower hB | exact Sub.nilOwn (fun _ h => Nat.le_trans hB h.size)) Try.underlying27 ?_
    | (refine Plan.convInt rfl rfl rfl rfl (by first | exact Try.underlying2 | exact Try.underlying3 | exact Try.underlying5 | exact Try.underlying21 | exact Try.underlying25 | exact Try.underlying33 | exact Try.underlying53 | exact Try.underlying89) (by first | exact Try.underlying2 | exact Try.underlying3 | exact Try.underlying5 | exact Try.underlying21 | exact Try.underlying25 | exact Try.underlying33 | exact Try.underlying53 | exact Try.underlying89) ?_; (first | refine Plan.int (i64u8 _) ?_ | refine Plan.int (i64r (by omega)) ?_ | refine Plan.int (u64r (by omega)) ?_ | refine Plan.int (u8r (by omega)) ?_ | refine Plan.int (u16r (by omega)) ?_ | refine Plan.int (quoN (by omega)) ?_ | refine Plan.int (remN _ _) ?_ | refine Plan.int (u8N _) ?_ | skip))
    | refine Plan.nilOk rfl rfl rfl rfl ?_
    | refine Plan.fieldC (m := 0) rfl rfl rfl rfl (by first | exact Try.underlying65 | exact Try.underlying67 | exact Try.underlying73) rfl (by kernel_rfl) (by first | exact (show _ = 0 from rfl) | exact (show _ = 1 from rfl) | exact (show _ = 2 from rfl) | exact (show _ = 3 from rfl) | exact (show _ = 4 from rfl) | exact (show _ = 5 from rfl) | exact (show _ = 6 from rfl) | exact (show _ = 7 from rfl) | exact (show _ = 8 from rfl) | exact (show _ = 9 from rfl) | exact (show _ = 10 from rfl) | exact (show _ = 11 from rfl) | exact (show _ = 12 from rfl) | exact (show _ = 13 from rfl) | exact (show _ = 14 from rfl) | exact (show _ = 15 from rfl) | exact (show _ = 16 from rfl) | exact (show _ = 17 from rfl) | exact (show _ = 18 from rfl) | exact (show _ = 19 from rfl) | exact (show _ = 20 from rfl) | exact (show _ = 21 from rfl) | exact (show _ = 22 from rfl) | exact (show _ = 23 from rfl) | exact (show _ = 24 from rfl) | exact (show _ = 25 from rfl) | exact (show _ = 26 from rfl) | exact (show _ = 27 from rfl) | exact (show _ = 28 from rfl) | exact (show _ = 29 from rfl) | exact (show _ = 30 from rfl) | exact (show _ = 31 from rfl)) ?_
    | refine Plan.loadC (key := 1000) (q := 0) rfl rfl rfl rfl rfl rfl (obj_reads1 rfl) (by first | exact Try.underlying3 | exact Try.underlying9 | exact Try.underlying27 | exact Try.underlying4 | exact Try.underlying5 | exact Try.underlying33) (by rfl) (by decide) ?_
    | refine Plan.loadC (key := 1000) (q := 1) rfl rfl rfl rfl rfl rfl (obj_reads1 rfl) (by first | exact Try.underlying3 | exact Try.underlying9 | exact Try.underlying27 | exact Try.underlying4 | exact Try.underlying5 | exact Try.underlying33) (by rfl) (by decide) ?_
    | refine Plan.loadC (key := 1000) (q := 2) rfl rfl rfl rfl rfl rfl (obj_reads1 rfl) (by first | exact Try.underlying3 | exact Try.underlying9 | exact Try.underlying27 | exact Try.underlying4 | exact Try.underlying5 | exact Try.underlying33) (by rfl) (by decide) ?_
    | refine Plan.eqlPtr rfl rfl rfl rfl (by kernel_rfl) ?_
    | refine Plan.neqPtr rfl rfl rfl rfl (by kernel_rfl) ?_
    | refine J.seq (J.region mixed hI (by kernel_rfl) ?_)
    | refine J.region mixed hI (by kernel_rfl) ?_
    | refine J.seq (J.seq (J.region mixed hI (by kernel_rfl) ?_))
    | refine J.condF rfl ?_
    | refine J.condT rfl ?_
    | refine J.skip ?_)
  by_cases hsm : small sc = true
  rotate_left
  · rw [Bool.not_eq_true] at hsm
    rw [hsm]
    repeat (first
    | refine Plan.move rfl rfl rfl rfl ?_
    | refine Plan.assign rfl rfl rfl rfl ?_
    | refine Plan.skip rfl rfl ?_
    | refine Plan.extract rfl rfl rfl rfl rfl ?_
    | refine Plan.pick rfl rfl rfl rfl rfl ?_
    | refine Plan.lenStr rfl rfl rfl rfl Try.underlying9 ?_
    | refine Plan.lenE rfl rfl rfl rfl Try.underlying27 ?_
    | (refine Plan.ints rfl rfl rfl rfl rfl rfl ?_; (first | refine Plan.int (i64u8 _) ?_ | refine Plan.int (i64r (by omega)) ?_ | refine Plan.int (u64r (by omega)) ?_ | refine Plan.int (u8r (by omega)) ?_ | refine Plan.int (u16r (by omega)) ?_ | refine Plan.int (quoN (by omega)) ?_ | refine Plan.int (remN _ _) ?_ | refine Plan.int (u8N _) ?_ | skip))
    | refine Plan.un rfl rfl rfl rfl rfl ?_
    | refine Plan.lenB rfl rfl rfl rfl (by first | exact Sub.refl _ | exact Sub.own | exact Sub.old (fun _ h => h) | exact Sub.oldOwn (fun _ h => h) | exact Sub.nilRow | exact Sub.ownLower hB | exact Sub.nilOwn (fun _ h => Nat.le_trans hB h.size)) Try.underlying27 ?_
    | (refine Plan.convInt rfl rfl rfl rfl (by first | exact Try.underlying2 | exact Try.underlying3 | exact Try.underlying5 | exact Try.underlying21 | exact Try.underlying25 | exact Try.underlying33 | exact Try.underlying53 | exact Try.underlying89) (by first | exact Try.underlying2 | exact Try.underlying3 | exact Try.underlying5 | exact Try.underlying21 | exact Try.underlying25 | exact Try.underlying33 | exact Try.underlying53 | exact Try.underlying89) ?_; (first | refine Plan.int (i64u8 _) ?_ | refine Plan.int (i64r (by omega)) ?_ | refine Plan.int (u64r (by omega)) ?_ | refine Plan.int (u8r (by omega)) ?_ | refine Plan.int (u16r (by omega)) ?_ | refine Plan.int (quoN (by omega)) ?_ | refine Plan.int (remN _ _) ?_ | refine Plan.int (u8N _) ?_ | skip))
    | refine Plan.nilOk rfl rfl rfl rfl ?_
    | refine Plan.fieldC (m := 0) rfl rfl rfl rfl (by first | exact Try.underlying65 | exact Try.underlying67 | exact Try.underlying73) rfl (by kernel_rfl) (by first | exact (show _ = 0 from rfl) | exact (show _ = 1 from rfl) | exact (show _ = 2 from rfl) | exact (show _ = 3 from rfl) | exact (show _ = 4 from rfl) | exact (show _ = 5 from rfl) | exact (show _ = 6 from rfl) | exact (show _ = 7 from rfl) | exact (show _ = 8 from rfl) | exact (show _ = 9 from rfl) | exact (show _ = 10 from rfl) | exact (show _ = 11 from rfl) | exact (show _ = 12 from rfl) | exact (show _ = 13 from rfl) | exact (show _ = 14 from rfl) | exact (show _ = 15 from rfl) | exact (show _ = 16 from rfl) | exact (show _ = 17 from rfl) | exact (show _ = 18 from rfl) | exact (show _ = 19 from rfl) | exact (show _ = 20 from rfl) | exact (show _ = 21 from rfl) | exact (show _ = 22 from rfl) | exact (show _ = 23 from rfl) | exact (show _ = 24 from rfl) | exact (show _ = 25 from rfl) | exact (show _ = 26 from rfl) | exact (show _ = 27 from rfl) | exact (show _ = 28 from rfl) | exact (show _ = 29 from rfl) | exact (show _ = 30 from rfl) | exact (show _ = 31 from rfl)) ?_
    | refine Plan.loadC (key := 1000) (q := 0) rfl rfl rfl rfl rfl rfl (obj_reads1 rfl) (by first | exact Try.underlying3 | exact Try.underlying9 | exact Try.underlying27 | exact Try.underlying4 | exact Try.underlying5 | exact Try.underlying33) (by rfl) (by decide) ?_
    | refine Plan.loadC (key := 1000) (q := 1) rfl rfl rfl rfl rfl rfl (obj_reads1 rfl) (by first | exact Try.underlying3 | exact Try.underlying9 | exact Try.underlying27 | exact Try.underlying4 | exact Try.underlying5 | exact Try.underlying33) (by rfl) (by decide) ?_
    | refine Plan.loadC (key := 1000) (q := 2) rfl rfl rfl rfl rfl rfl (obj_reads1 rfl) (by first | exact Try.underlying3 | exact Try.underlying9 | exact Try.underlying27 | exact Try.underlying4 | exact Try.underlying5 | exact Try.underlying33) (by rfl) (by decide) ?_
    | refine Plan.eqlPtr rfl rfl rfl rfl (by kernel_rfl) ?_
    | refine Plan.neqPtr rfl rfl rfl rfl (by kernel_rfl) ?_
    | refine J.seq (J.region mixed hI (by kernel_rfl) ?_)
    | refine J.region mixed hI (by kernel_rfl) ?_
    | refine J.seq (J.seq (J.region mixed hI (by kernel_rfl) ?_))
    | refine J.condF rfl ?_
    | refine J.condT rfl ?_
    | refine J.skip ?_)
    refine Plan.call (B := w0.heap.size) rfl rfl rfl (awakeD_fn) Try.func16 rfl rfl (hBb w0) (by repeat (first | exact Opnds.nil | refine Opnds.cons rfl (by first | exact Sub.refl _ | exact Sub.own | exact Sub.old (fun _ h => h) | exact Sub.oldOwn (fun _ h => h) | exact Sub.nilRow) ?_)) ?_
    repeat (first
    | refine Plan.move rfl rfl rfl rfl ?_
    | refine Plan.assign rfl rfl rfl rfl ?_
    | refine Plan.skip rfl rfl ?_
    | refine Plan.extract rfl rfl rfl rfl rfl ?_
    | refine Plan.pick rfl rfl rfl rfl rfl ?_
    | refine Plan.lenStr rfl rfl rfl rfl Try.underlying9 ?_
    | refine Plan.lenE rfl rfl rfl rfl Try.underlying27 ?_
    | (refine Plan.ints rfl rfl rfl rfl rfl rfl ?_; (first | refine Plan.int (i64u8 _) ?_ | refine Plan.int (i64r (by omega)) ?_ | refine Plan.int (u64r (by omega)) ?_ | refine Plan.int (u8r (by omega)) ?_ | refine Plan.int (u16r (by omega)) ?_ | refine Plan.int (quoN (by omega)) ?_ | refine Plan.int (remN _ _) ?_ | refine Plan.int (u8N _) ?_ | skip))
    | refine Plan.un rfl rfl rfl rfl rfl ?_
    | refine Plan.lenB rfl rfl rfl rfl (by first | exact Sub.refl _ | exact Sub.own | exact Sub.old (fun _ h => h) | exact Sub.oldOwn (fun _ h => h) | exact Sub.nilRow | exact Sub.ownLower hB | exact Sub.nilOwn (fun _ h => Nat.le_trans hB h.size)) Try.underlying27 ?_
    | (refine Plan.convInt rfl rfl rfl rfl (by first | exact Try.underlying2 | exact Try.underlying3 | exact Try.underlying5 | exact Try.underlying21 | exact Try.underlying25 | exact Try.underlying33 | exact Try.underlying53 | exact Try.underlying89) (by first | exact Try.underlying2 | exact Try.underlying3 | exact Try.underlying5 | exact Try.underlying21 | exact Try.underlying25 | exact Try.underlying33 | exact Try.underlying53 | exact Try.underlying89) ?_; (first | refine Plan.int (i64u8 _) ?_ | refine Plan.int (i64r (by omega)) ?_ | refine Plan.int (u64r (by omega)) ?_ | refine Plan.int (u8r (by omega)) ?_ | refine Plan.int (u16r (by omega)) ?_ | refine Plan.int (quoN (by omega)) ?_ | refine Plan.int (remN _ _) ?_ | refine Plan.int (u8N _) ?_ | skip))
    | refine Plan.nilOk rfl rfl rfl rfl ?_
    | refine Plan.fieldC (m := 0) rfl rfl rfl rfl (by first | exact Try.underlying65 | exact Try.underlying67 | exact Try.underlying73) rfl (by kernel_rfl) (by first | exact (show _ = 0 from rfl) | exact (show _ = 1 from rfl) | exact (show _ = 2 from rfl) | exact (show _ = 3 from rfl) | exact (show _ = 4 from rfl) | exact (show _ = 5 from rfl) | exact (show _ = 6 from rfl) | exact (show _ = 7 from rfl) | exact (show _ = 8 from rfl) | exact (show _ = 9 from rfl) | exact (show _ = 10 from rfl) | exact (show _ = 11 from rfl) | exact (show _ = 12 from rfl) | exact (show _ = 13 from rfl) | exact (show _ = 14 from rfl) | exact (show _ = 15 from rfl) | exact (show _ = 16 from rfl) | exact (show _ = 17 from rfl) | exact (show _ = 18 from rfl) | exact (show _ = 19 from rfl) | exact (show _ = 20 from rfl) | exact (show _ = 21 from rfl) | exact (show _ = 22 from rfl) | exact (show _ = 23 from rfl) | exact (show _ = 24 from rfl) | exact (show _ = 25 from rfl) | exact (show _ = 26 from rfl) | exact (show _ = 27 from rfl) | exact (show _ = 28 from rfl) | exact (show _ = 29 from rfl) | exact (show _ = 30 from rfl) | exact (show _ = 31 from rfl)) ?_
    | refine Plan.loadC (key := 1000) (q := 0) rfl rfl rfl rfl rfl rfl (obj_reads1 rfl) (by first | exact Try.underlying3 | exact Try.underlying9 | exact Try.underlying27 | exact Try.underlying4 | exact Try.underlying5 | exact Try.underlying33) (by rfl) (by decide) ?_
    | refine Plan.loadC (key := 1000) (q := 1) rfl rfl rfl rfl rfl rfl (obj_reads1 rfl) (by first | exact Try.underlying3 | exact Try.underlying9 | exact Try.underlying27 | exact Try.underlying4 | exact Try.underlying5 | exact Try.underlying33) (by rfl) (by decide) ?_
    | refine Plan.loadC (key := 1000) (q := 2) rfl rfl rfl rfl rfl rfl (obj_reads1 rfl) (by first | exact Try.underlying3 | exact Try.underlying9 | exact Try.underlying27 | exact Try.underlying4 | exact Try.underlying5 | exact Try.underlying33) (by rfl) (by decide) ?_
    | refine Plan.eqlPtr rfl rfl rfl rfl (by kernel_rfl) ?_
    | refine Plan.neqPtr rfl rfl rfl rfl (by kernel_rfl) ?_
    | refine J.seq (J.region mixed hI (by kernel_rfl) ?_)
    | refine J.region mixed hI (by kernel_rfl) ?_
    | refine J.seq (J.seq (J.region mixed hI (by kernel_rfl) ?_))
    | refine J.condF rfl ?_
    | refine J.condT rfl ?_
    | refine J.skip ?_)
    exact J.ret (Nrm.ret1 rfl (fun _ h => h) rfl fun B _ => Sub.refl _)
  rw [hsm]
  have hsmall : ∀ o ∈ sc, o.b.length ≤ 70000 := fun o ho => by
    unfold small at hsm
    rw [Bool.and_eq_true, List.all_eq_true] at hsm
    exact of_decide_eq_true (hsm.2 o ho)
  repeat (first
    | refine Plan.move rfl rfl rfl rfl ?_
    | refine Plan.assign rfl rfl rfl rfl ?_
    | refine Plan.skip rfl rfl ?_
    | refine Plan.extract rfl rfl rfl rfl rfl ?_
    | refine Plan.pick rfl rfl rfl rfl rfl ?_
    | refine Plan.lenStr rfl rfl rfl rfl Try.underlying9 ?_
    | refine Plan.lenE rfl rfl rfl rfl Try.underlying27 ?_
    | (refine Plan.ints rfl rfl rfl rfl rfl rfl ?_; (first | refine Plan.int (i64u8 _) ?_ | refine Plan.int (i64r (by omega)) ?_ | refine Plan.int (u64r (by omega)) ?_ | refine Plan.int (u8r (by omega)) ?_ | refine Plan.int (u16r (by omega)) ?_ | refine Plan.int (quoN (by omega)) ?_ | refine Plan.int (remN _ _) ?_ | refine Plan.int (u8N _) ?_ | skip))
    | refine Plan.un rfl rfl rfl rfl rfl ?_
    | refine Plan.lenB rfl rfl rfl rfl (by first | exact Sub.refl _ | exact Sub.own | exact Sub.old (fun _ h => h) | exact Sub.oldOwn (fun _ h => h) | exact Sub.nilRow | exact Sub.ownLower hB | exact Sub.nilOwn (fun _ h => Nat.le_trans hB h.size)) Try.underlying27 ?_
    | (refine Plan.convInt rfl rfl rfl rfl (by first | exact Try.underlying2 | exact Try.underlying3 | exact Try.underlying5 | exact Try.underlying21 | exact Try.underlying25 | exact Try.underlying33 | exact Try.underlying53 | exact Try.underlying89) (by first | exact Try.underlying2 | exact Try.underlying3 | exact Try.underlying5 | exact Try.underlying21 | exact Try.underlying25 | exact Try.underlying33 | exact Try.underlying53 | exact Try.underlying89) ?_; (first | refine Plan.int (i64u8 _) ?_ | refine Plan.int (i64r (by omega)) ?_ | refine Plan.int (u64r (by omega)) ?_ | refine Plan.int (u8r (by omega)) ?_ | refine Plan.int (u16r (by omega)) ?_ | refine Plan.int (quoN (by omega)) ?_ | refine Plan.int (remN _ _) ?_ | refine Plan.int (u8N _) ?_ | skip))
    | refine Plan.nilOk rfl rfl rfl rfl ?_
    | refine Plan.fieldC (m := 0) rfl rfl rfl rfl (by first | exact Try.underlying65 | exact Try.underlying67 | exact Try.underlying73) rfl (by kernel_rfl) (by first | exact (show _ = 0 from rfl) | exact (show _ = 1 from rfl) | exact (show _ = 2 from rfl) | exact (show _ = 3 from rfl) | exact (show _ = 4 from rfl) | exact (show _ = 5 from rfl) | exact (show _ = 6 from rfl) | exact (show _ = 7 from rfl) | exact (show _ = 8 from rfl) | exact (show _ = 9 from rfl) | exact (show _ = 10 from rfl) | exact (show _ = 11 from rfl) | exact (show _ = 12 from rfl) | exact (show _ = 13 from rfl) | exact (show _ = 14 from rfl) | exact (show _ = 15 from rfl) | exact (show _ = 16 from rfl) | exact (show _ = 17 from rfl) | exact (show _ = 18 from rfl) | exact (show _ = 19 from rfl) | exact (show _ = 20 from rfl) | exact (show _ = 21 from rfl) | exact (show _ = 22 from rfl) | exact (show _ = 23 from rfl) | exact (show _ = 24 from rfl) | exact (show _ = 25 from rfl) | exact (show _ = 26 from rfl) | exact (show _ = 27 from rfl) | exact (show _ = 28 from rfl) | exact (show _ = 29 from rfl) | exact (show _ = 30 from rfl) | exact (show _ = 31 from rfl)) ?_
    | refine Plan.loadC (key := 1000) (q := 0) rfl rfl rfl rfl rfl rfl (obj_reads1 rfl) (by first | exact Try.underlying3 | exact Try.underlying9 | exact Try.underlying27 | exact Try.underlying4 | exact Try.underlying5 | exact Try.underlying33) (by rfl) (by decide) ?_
    | refine Plan.loadC (key := 1000) (q := 1) rfl rfl rfl rfl rfl rfl (obj_reads1 rfl) (by first | exact Try.underlying3 | exact Try.underlying9 | exact Try.underlying27 | exact Try.underlying4 | exact Try.underlying5 | exact Try.underlying33) (by rfl) (by decide) ?_
    | refine Plan.loadC (key := 1000) (q := 2) rfl rfl rfl rfl rfl rfl (obj_reads1 rfl) (by first | exact Try.underlying3 | exact Try.underlying9 | exact Try.underlying27 | exact Try.underlying4 | exact Try.underlying5 | exact Try.underlying33) (by rfl) (by decide) ?_
    | refine Plan.eqlPtr rfl rfl rfl rfl (by kernel_rfl) ?_
    | refine Plan.neqPtr rfl rfl rfl rfl (by kernel_rfl) ?_
    | refine J.seq (J.region mixed hI (by kernel_rfl) ?_)
    | refine J.region mixed hI (by kernel_rfl) ?_
    | refine J.seq (J.seq (J.region mixed hI (by kernel_rfl) ?_))
    | refine J.condF rfl ?_
    | refine J.condT rfl ?_
    | refine J.skip ?_)
  refine Plan.callN (key := 1000) rfl rfl rfl (hnew) Try.func17 rfl rfl (by intro _ e; cases e; decide) (by repeat (first | exact Opnds.nil | refine Opnds.cons rfl (by first | exact Sub.refl _ | exact Sub.own | exact Sub.old (fun _ h => h) | exact Sub.oldOwn (fun _ h => h) | exact Sub.nilRow) ?_)) rfl hA ?_
  intro β _
  repeat (first
    | refine Plan.move rfl rfl rfl rfl ?_
    | refine Plan.assign rfl rfl rfl rfl ?_
    | refine Plan.skip rfl rfl ?_
    | refine Plan.extract rfl rfl rfl rfl rfl ?_
    | refine Plan.pick rfl rfl rfl rfl rfl ?_
    | refine Plan.lenStr rfl rfl rfl rfl Try.underlying9 ?_
    | refine Plan.lenE rfl rfl rfl rfl Try.underlying27 ?_
    | (refine Plan.ints rfl rfl rfl rfl rfl rfl ?_; (first | refine Plan.int (i64u8 _) ?_ | refine Plan.int (i64r (by omega)) ?_ | refine Plan.int (u64r (by omega)) ?_ | refine Plan.int (u8r (by omega)) ?_ | refine Plan.int (u16r (by omega)) ?_ | refine Plan.int (quoN (by omega)) ?_ | refine Plan.int (remN _ _) ?_ | refine Plan.int (u8N _) ?_ | skip))
    | refine Plan.un rfl rfl rfl rfl rfl ?_
    | refine Plan.lenB rfl rfl rfl rfl (by first | exact Sub.refl _ | exact Sub.own | exact Sub.old (fun _ h => h) | exact Sub.oldOwn (fun _ h => h) | exact Sub.nilRow | exact Sub.ownLower hB | exact Sub.nilOwn (fun _ h => Nat.le_trans hB h.size)) Try.underlying27 ?_
    | (refine Plan.convInt rfl rfl rfl rfl (by first | exact Try.underlying2 | exact Try.underlying3 | exact Try.underlying5 | exact Try.underlying21 | exact Try.underlying25 | exact Try.underlying33 | exact Try.underlying53 | exact Try.underlying89) (by first | exact Try.underlying2 | exact Try.underlying3 | exact Try.underlying5 | exact Try.underlying21 | exact Try.underlying25 | exact Try.underlying33 | exact Try.underlying53 | exact Try.underlying89) ?_; (first | refine Plan.int (i64u8 _) ?_ | refine Plan.int (i64r (by omega)) ?_ | refine Plan.int (u64r (by omega)) ?_ | refine Plan.int (u8r (by omega)) ?_ | refine Plan.int (u16r (by omega)) ?_ | refine Plan.int (quoN (by omega)) ?_ | refine Plan.int (remN _ _) ?_ | refine Plan.int (u8N _) ?_ | skip))
    | refine Plan.nilOk rfl rfl rfl rfl ?_
    | refine Plan.fieldC (m := 0) rfl rfl rfl rfl (by first | exact Try.underlying65 | exact Try.underlying67 | exact Try.underlying73) rfl (by kernel_rfl) (by first | exact (show _ = 0 from rfl) | exact (show _ = 1 from rfl) | exact (show _ = 2 from rfl) | exact (show _ = 3 from rfl) | exact (show _ = 4 from rfl) | exact (show _ = 5 from rfl) | exact (show _ = 6 from rfl) | exact (show _ = 7 from rfl) | exact (show _ = 8 from rfl) | exact (show _ = 9 from rfl) | exact (show _ = 10 from rfl) | exact (show _ = 11 from rfl) | exact (show _ = 12 from rfl) | exact (show _ = 13 from rfl) | exact (show _ = 14 from rfl) | exact (show _ = 15 from rfl) | exact (show _ = 16 from rfl) | exact (show _ = 17 from rfl) | exact (show _ = 18 from rfl) | exact (show _ = 19 from rfl) | exact (show _ = 20 from rfl) | exact (show _ = 21 from rfl) | exact (show _ = 22 from rfl) | exact (show _ = 23 from rfl) | exact (show _ = 24 from rfl) | exact (show _ = 25 from rfl) | exact (show _ = 26 from rfl) | exact (show _ = 27 from rfl) | exact (show _ = 28 from rfl) | exact (show _ = 29 from rfl) | exact (show _ = 30 from rfl) | exact (show _ = 31 from rfl)) ?_
    | refine Plan.loadC (key := 1000) (q := 0) rfl rfl rfl rfl rfl rfl (obj_reads1 rfl) (by first | exact Try.underlying3 | exact Try.underlying9 | exact Try.underlying27 | exact Try.underlying4 | exact Try.underlying5 | exact Try.underlying33) (by rfl) (by decide) ?_
    | refine Plan.loadC (key := 1000) (q := 1) rfl rfl rfl rfl rfl rfl (obj_reads1 rfl) (by first | exact Try.underlying3 | exact Try.underlying9 | exact Try.underlying27 | exact Try.underlying4 | exact Try.underlying5 | exact Try.underlying33) (by rfl) (by decide) ?_
    | refine Plan.loadC (key := 1000) (q := 2) rfl rfl rfl rfl rfl rfl (obj_reads1 rfl) (by first | exact Try.underlying3 | exact Try.underlying9 | exact Try.underlying27 | exact Try.underlying4 | exact Try.underlying5 | exact Try.underlying33) (by rfl) (by decide) ?_
    | refine Plan.eqlPtr rfl rfl rfl rfl (by kernel_rfl) ?_
    | refine Plan.neqPtr rfl rfl rfl rfl (by kernel_rfl) ?_
    | refine J.seq (J.region mixed hI (by kernel_rfl) ?_)
    | refine J.region mixed hI (by kernel_rfl) ?_
    | refine J.seq (J.seq (J.region mixed hI (by kernel_rfl) ?_))
    | refine J.condF rfl ?_
    | refine J.condT rfl ?_
    | refine J.skip ?_)
  refine Plan.callN (key := 1000) rfl rfl rfl (hnewR) Try.func34 rfl rfl (by intro _ e; cases e; decide) (by repeat (first | exact Opnds.nil | refine Opnds.cons rfl (by first | exact Sub.refl _ | exact Sub.own | exact Sub.old (fun _ h => h) | exact Sub.oldOwn (fun _ h => h) | exact Sub.nilRow) ?_)) rfl hA ?_
  intro γ _
  repeat (first
    | refine Plan.move rfl rfl rfl rfl ?_
    | refine Plan.assign rfl rfl rfl rfl ?_
    | refine Plan.skip rfl rfl ?_
    | refine Plan.extract rfl rfl rfl rfl rfl ?_
    | refine Plan.pick rfl rfl rfl rfl rfl ?_
    | refine Plan.lenStr rfl rfl rfl rfl Try.underlying9 ?_
    | refine Plan.lenE rfl rfl rfl rfl Try.underlying27 ?_
    | (refine Plan.ints rfl rfl rfl rfl rfl rfl ?_; (first | refine Plan.int (i64u8 _) ?_ | refine Plan.int (i64r (by omega)) ?_ | refine Plan.int (u64r (by omega)) ?_ | refine Plan.int (u8r (by omega)) ?_ | refine Plan.int (u16r (by omega)) ?_ | refine Plan.int (quoN (by omega)) ?_ | refine Plan.int (remN _ _) ?_ | refine Plan.int (u8N _) ?_ | skip))
    | refine Plan.un rfl rfl rfl rfl rfl ?_
    | refine Plan.lenB rfl rfl rfl rfl (by first | exact Sub.refl _ | exact Sub.own | exact Sub.old (fun _ h => h) | exact Sub.oldOwn (fun _ h => h) | exact Sub.nilRow | exact Sub.ownLower hB | exact Sub.nilOwn (fun _ h => Nat.le_trans hB h.size)) Try.underlying27 ?_
    | (refine Plan.convInt rfl rfl rfl rfl (by first | exact Try.underlying2 | exact Try.underlying3 | exact Try.underlying5 | exact Try.underlying21 | exact Try.underlying25 | exact Try.underlying33 | exact Try.underlying53 | exact Try.underlying89) (by first | exact Try.underlying2 | exact Try.underlying3 | exact Try.underlying5 | exact Try.underlying21 | exact Try.underlying25 | exact Try.underlying33 | exact Try.underlying53 | exact Try.underlying89) ?_; (first | refine Plan.int (i64u8 _) ?_ | refine Plan.int (i64r (by omega)) ?_ | refine Plan.int (u64r (by omega)) ?_ | refine Plan.int (u8r (by omega)) ?_ | refine Plan.int (u16r (by omega)) ?_ | refine Plan.int (quoN (by omega)) ?_ | refine Plan.int (remN _ _) ?_ | refine Plan.int (u8N _) ?_ | skip))
    | refine Plan.nilOk rfl rfl rfl rfl ?_
    | refine Plan.fieldC (m := 0) rfl rfl rfl rfl (by first | exact Try.underlying65 | exact Try.underlying67 | exact Try.underlying73) rfl (by kernel_rfl) (by first | exact (show _ = 0 from rfl) | exact (show _ = 1 from rfl) | exact (show _ = 2 from rfl) | exact (show _ = 3 from rfl) | exact (show _ = 4 from rfl) | exact (show _ = 5 from rfl) | exact (show _ = 6 from rfl) | exact (show _ = 7 from rfl) | exact (show _ = 8 from rfl) | exact (show _ = 9 from rfl) | exact (show _ = 10 from rfl) | exact (show _ = 11 from rfl) | exact (show _ = 12 from rfl) | exact (show _ = 13 from rfl) | exact (show _ = 14 from rfl) | exact (show _ = 15 from rfl) | exact (show _ = 16 from rfl) | exact (show _ = 17 from rfl) | exact (show _ = 18 from rfl) | exact (show _ = 19 from rfl) | exact (show _ = 20 from rfl) | exact (show _ = 21 from rfl) | exact (show _ = 22 from rfl) | exact (show _ = 23 from rfl) | exact (show _ = 24 from rfl) | exact (show _ = 25 from rfl) | exact (show _ = 26 from rfl) | exact (show _ = 27 from rfl) | exact (show _ = 28 from rfl) | exact (show _ = 29 from rfl) | exact (show _ = 30 from rfl) | exact (show _ = 31 from rfl)) ?_
    | refine Plan.loadC (key := 1000) (q := 0) rfl rfl rfl rfl rfl rfl (obj_reads1 rfl) (by first | exact Try.underlying3 | exact Try.underlying9 | exact Try.underlying27 | exact Try.underlying4 | exact Try.underlying5 | exact Try.underlying33) (by rfl) (by decide) ?_
    | refine Plan.loadC (key := 1000) (q := 1) rfl rfl rfl rfl rfl rfl (obj_reads1 rfl) (by first | exact Try.underlying3 | exact Try.underlying9 | exact Try.underlying27 | exact Try.underlying4 | exact Try.underlying5 | exact Try.underlying33) (by rfl) (by decide) ?_
    | refine Plan.loadC (key := 1000) (q := 2) rfl rfl rfl rfl rfl rfl (obj_reads1 rfl) (by first | exact Try.underlying3 | exact Try.underlying9 | exact Try.underlying27 | exact Try.underlying4 | exact Try.underlying5 | exact Try.underlying33) (by rfl) (by decide) ?_
    | refine Plan.eqlPtr rfl rfl rfl rfl (by kernel_rfl) ?_
    | refine Plan.neqPtr rfl rfl rfl rfl (by kernel_rfl) ?_
    | refine J.seq (J.region mixed hI (by kernel_rfl) ?_)
    | refine J.region mixed hI (by kernel_rfl) ?_
    | refine J.seq (J.seq (J.region mixed hI (by kernel_rfl) ?_))
    | refine J.condF rfl ?_
    | refine J.condT rfl ?_
    | refine J.skip ?_)
  refine Plan.callR (key := 1000) (B := 0) (q := 0) rfl rfl rfl (disk_Room β [] 0 R) Try.func21 rfl rfl (fun _ _ => Nat.zero_le _) (by repeat (first | exact Opnds.nil | refine Opnds.cons rfl (by first | exact Sub.refl _ | exact Sub.own | exact Sub.old (fun _ h => h) | exact Sub.oldOwn (fun _ h => h) | exact Sub.nilRow) ?_)) rfl rfl (by decide) ?_
  repeat (first
    | refine Plan.move rfl rfl rfl rfl ?_
    | refine Plan.assign rfl rfl rfl rfl ?_
    | refine Plan.skip rfl rfl ?_
    | refine Plan.extract rfl rfl rfl rfl rfl ?_
    | refine Plan.pick rfl rfl rfl rfl rfl ?_
    | refine Plan.lenStr rfl rfl rfl rfl Try.underlying9 ?_
    | refine Plan.lenE rfl rfl rfl rfl Try.underlying27 ?_
    | (refine Plan.ints rfl rfl rfl rfl rfl rfl ?_; (first | refine Plan.int (i64u8 _) ?_ | refine Plan.int (i64r (by omega)) ?_ | refine Plan.int (u64r (by omega)) ?_ | refine Plan.int (u8r (by omega)) ?_ | refine Plan.int (u16r (by omega)) ?_ | refine Plan.int (quoN (by omega)) ?_ | refine Plan.int (remN _ _) ?_ | refine Plan.int (u8N _) ?_ | skip))
    | refine Plan.un rfl rfl rfl rfl rfl ?_
    | refine Plan.lenB rfl rfl rfl rfl (by first | exact Sub.refl _ | exact Sub.own | exact Sub.old (fun _ h => h) | exact Sub.oldOwn (fun _ h => h) | exact Sub.nilRow | exact Sub.ownLower hB | exact Sub.nilOwn (fun _ h => Nat.le_trans hB h.size)) Try.underlying27 ?_
    | (refine Plan.convInt rfl rfl rfl rfl (by first | exact Try.underlying2 | exact Try.underlying3 | exact Try.underlying5 | exact Try.underlying21 | exact Try.underlying25 | exact Try.underlying33 | exact Try.underlying53 | exact Try.underlying89) (by first | exact Try.underlying2 | exact Try.underlying3 | exact Try.underlying5 | exact Try.underlying21 | exact Try.underlying25 | exact Try.underlying33 | exact Try.underlying53 | exact Try.underlying89) ?_; (first | refine Plan.int (i64u8 _) ?_ | refine Plan.int (i64r (by omega)) ?_ | refine Plan.int (u64r (by omega)) ?_ | refine Plan.int (u8r (by omega)) ?_ | refine Plan.int (u16r (by omega)) ?_ | refine Plan.int (quoN (by omega)) ?_ | refine Plan.int (remN _ _) ?_ | refine Plan.int (u8N _) ?_ | skip))
    | refine Plan.nilOk rfl rfl rfl rfl ?_
    | refine Plan.fieldC (m := 0) rfl rfl rfl rfl (by first | exact Try.underlying65 | exact Try.underlying67 | exact Try.underlying73) rfl (by kernel_rfl) (by first | exact (show _ = 0 from rfl) | exact (show _ = 1 from rfl) | exact (show _ = 2 from rfl) | exact (show _ = 3 from rfl) | exact (show _ = 4 from rfl) | exact (show _ = 5 from rfl) | exact (show _ = 6 from rfl) | exact (show _ = 7 from rfl) | exact (show _ = 8 from rfl) | exact (show _ = 9 from rfl) | exact (show _ = 10 from rfl) | exact (show _ = 11 from rfl) | exact (show _ = 12 from rfl) | exact (show _ = 13 from rfl) | exact (show _ = 14 from rfl) | exact (show _ = 15 from rfl) | exact (show _ = 16 from rfl) | exact (show _ = 17 from rfl) | exact (show _ = 18 from rfl) | exact (show _ = 19 from rfl) | exact (show _ = 20 from rfl) | exact (show _ = 21 from rfl) | exact (show _ = 22 from rfl) | exact (show _ = 23 from rfl) | exact (show _ = 24 from rfl) | exact (show _ = 25 from rfl) | exact (show _ = 26 from rfl) | exact (show _ = 27 from rfl) | exact (show _ = 28 from rfl) | exact (show _ = 29 from rfl) | exact (show _ = 30 from rfl) | exact (show _ = 31 from rfl)) ?_
    | refine Plan.loadC (key := 1000) (q := 0) rfl rfl rfl rfl rfl rfl (obj_reads1 rfl) (by first | exact Try.underlying3 | exact Try.underlying9 | exact Try.underlying27 | exact Try.underlying4 | exact Try.underlying5 | exact Try.underlying33) (by rfl) (by decide) ?_
    | refine Plan.loadC (key := 1000) (q := 1) rfl rfl rfl rfl rfl rfl (obj_reads1 rfl) (by first | exact Try.underlying3 | exact Try.underlying9 | exact Try.underlying27 | exact Try.underlying4 | exact Try.underlying5 | exact Try.underlying33) (by rfl) (by decide) ?_
    | refine Plan.loadC (key := 1000) (q := 2) rfl rfl rfl rfl rfl rfl (obj_reads1 rfl) (by first | exact Try.underlying3 | exact Try.underlying9 | exact Try.underlying27 | exact Try.underlying4 | exact Try.underlying5 | exact Try.underlying33) (by rfl) (by decide) ?_
    | refine Plan.eqlPtr rfl rfl rfl rfl (by kernel_rfl) ?_
    | refine Plan.neqPtr rfl rfl rfl rfl (by kernel_rfl) ?_
    | refine J.seq (J.region mixed hI (by kernel_rfl) ?_)
    | refine J.region mixed hI (by kernel_rfl) ?_
    | refine J.seq (J.seq (J.region mixed hI (by kernel_rfl) ?_))
    | refine J.condF rfl ?_
    | refine J.condT rfl ?_
    | refine J.skip ?_)
  refine Plan.boolv (y := false) (by simp) ?_
  repeat (first
    | refine Plan.move rfl rfl rfl rfl ?_
    | refine Plan.assign rfl rfl rfl rfl ?_
    | refine Plan.skip rfl rfl ?_
    | refine Plan.extract rfl rfl rfl rfl rfl ?_
    | refine Plan.pick rfl rfl rfl rfl rfl ?_
    | refine Plan.lenStr rfl rfl rfl rfl Try.underlying9 ?_
    | refine Plan.lenE rfl rfl rfl rfl Try.underlying27 ?_
    | (refine Plan.ints rfl rfl rfl rfl rfl rfl ?_; (first | refine Plan.int (i64u8 _) ?_ | refine Plan.int (i64r (by omega)) ?_ | refine Plan.int (u64r (by omega)) ?_ | refine Plan.int (u8r (by omega)) ?_ | refine Plan.int (u16r (by omega)) ?_ | refine Plan.int (quoN (by omega)) ?_ | refine Plan.int (remN _ _) ?_ | refine Plan.int (u8N _) ?_ | skip))
    | refine Plan.un rfl rfl rfl rfl rfl ?_
    | refine Plan.lenB rfl rfl rfl rfl (by first | exact Sub.refl _ | exact Sub.own | exact Sub.old (fun _ h => h) | exact Sub.oldOwn (fun _ h => h) | exact Sub.nilRow | exact Sub.ownLower hB | exact Sub.nilOwn (fun _ h => Nat.le_trans hB h.size)) Try.underlying27 ?_
    | (refine Plan.convInt rfl rfl rfl rfl (by first | exact Try.underlying2 | exact Try.underlying3 | exact Try.underlying5 | exact Try.underlying21 | exact Try.underlying25 | exact Try.underlying33 | exact Try.underlying53 | exact Try.underlying89) (by first | exact Try.underlying2 | exact Try.underlying3 | exact Try.underlying5 | exact Try.underlying21 | exact Try.underlying25 | exact Try.underlying33 | exact Try.underlying53 | exact Try.underlying89) ?_; (first | refine Plan.int (i64u8 _) ?_ | refine Plan.int (i64r (by omega)) ?_ | refine Plan.int (u64r (by omega)) ?_ | refine Plan.int (u8r (by omega)) ?_ | refine Plan.int (u16r (by omega)) ?_ | refine Plan.int (quoN (by omega)) ?_ | refine Plan.int (remN _ _) ?_ | refine Plan.int (u8N _) ?_ | skip))
    | refine Plan.nilOk rfl rfl rfl rfl ?_
    | refine Plan.fieldC (m := 0) rfl rfl rfl rfl (by first | exact Try.underlying65 | exact Try.underlying67 | exact Try.underlying73) rfl (by kernel_rfl) (by first | exact (show _ = 0 from rfl) | exact (show _ = 1 from rfl) | exact (show _ = 2 from rfl) | exact (show _ = 3 from rfl) | exact (show _ = 4 from rfl) | exact (show _ = 5 from rfl) | exact (show _ = 6 from rfl) | exact (show _ = 7 from rfl) | exact (show _ = 8 from rfl) | exact (show _ = 9 from rfl) | exact (show _ = 10 from rfl) | exact (show _ = 11 from rfl) | exact (show _ = 12 from rfl) | exact (show _ = 13 from rfl) | exact (show _ = 14 from rfl) | exact (show _ = 15 from rfl) | exact (show _ = 16 from rfl) | exact (show _ = 17 from rfl) | exact (show _ = 18 from rfl) | exact (show _ = 19 from rfl) | exact (show _ = 20 from rfl) | exact (show _ = 21 from rfl) | exact (show _ = 22 from rfl) | exact (show _ = 23 from rfl) | exact (show _ = 24 from rfl) | exact (show _ = 25 from rfl) | exact (show _ = 26 from rfl) | exact (show _ = 27 from rfl) | exact (show _ = 28 from rfl) | exact (show _ = 29 from rfl) | exact (show _ = 30 from rfl) | exact (show _ = 31 from rfl)) ?_
    | refine Plan.loadC (key := 1000) (q := 0) rfl rfl rfl rfl rfl rfl (obj_reads1 rfl) (by first | exact Try.underlying3 | exact Try.underlying9 | exact Try.underlying27 | exact Try.underlying4 | exact Try.underlying5 | exact Try.underlying33) (by rfl) (by decide) ?_
    | refine Plan.loadC (key := 1000) (q := 1) rfl rfl rfl rfl rfl rfl (obj_reads1 rfl) (by first | exact Try.underlying3 | exact Try.underlying9 | exact Try.underlying27 | exact Try.underlying4 | exact Try.underlying5 | exact Try.underlying33) (by rfl) (by decide) ?_
    | refine Plan.loadC (key := 1000) (q := 2) rfl rfl rfl rfl rfl rfl (obj_reads1 rfl) (by first | exact Try.underlying3 | exact Try.underlying9 | exact Try.underlying27 | exact Try.underlying4 | exact Try.underlying5 | exact Try.underlying33) (by rfl) (by decide) ?_
    | refine Plan.eqlPtr rfl rfl rfl rfl (by kernel_rfl) ?_
    | refine Plan.neqPtr rfl rfl rfl rfl (by kernel_rfl) ?_
    | refine J.seq (J.region mixed hI (by kernel_rfl) ?_)
    | refine J.region mixed hI (by kernel_rfl) ?_
    | refine J.seq (J.seq (J.region mixed hI (by kernel_rfl) ?_))
    | refine J.condF rfl ?_
    | refine J.condT rfl ?_
    | refine J.skip ?_)
  refine Plan.lenRow (m := sc.length) rfl rfl rfl rfl (Sub.old fun _ h => h) Try.underlying60 (by rw [flatMap_length _ 5 encO]) (by decide) ?_
  repeat (first
    | refine Plan.move rfl rfl rfl rfl ?_
    | refine Plan.assign rfl rfl rfl rfl ?_
    | refine Plan.skip rfl rfl ?_
    | refine Plan.extract rfl rfl rfl rfl rfl ?_
    | refine Plan.pick rfl rfl rfl rfl rfl ?_
    | refine Plan.lenStr rfl rfl rfl rfl Try.underlying9 ?_
    | refine Plan.lenE rfl rfl rfl rfl Try.underlying27 ?_
    | (refine Plan.ints rfl rfl rfl rfl rfl rfl ?_; (first | refine Plan.int (i64u8 _) ?_ | refine Plan.int (i64r (by omega)) ?_ | refine Plan.int (u64r (by omega)) ?_ | refine Plan.int (u8r (by omega)) ?_ | refine Plan.int (u16r (by omega)) ?_ | refine Plan.int (quoN (by omega)) ?_ | refine Plan.int (remN _ _) ?_ | refine Plan.int (u8N _) ?_ | skip))
    | refine Plan.un rfl rfl rfl rfl rfl ?_
    | refine Plan.lenB rfl rfl rfl rfl (by first | exact Sub.refl _ | exact Sub.own | exact Sub.old (fun _ h => h) | exact Sub.oldOwn (fun _ h => h) | exact Sub.nilRow | exact Sub.ownLower hB | exact Sub.nilOwn (fun _ h => Nat.le_trans hB h.size)) Try.underlying27 ?_
    | (refine Plan.convInt rfl rfl rfl rfl (by first | exact Try.underlying2 | exact Try.underlying3 | exact Try.underlying5 | exact Try.underlying21 | exact Try.underlying25 | exact Try.underlying33 | exact Try.underlying53 | exact Try.underlying89) (by first | exact Try.underlying2 | exact Try.underlying3 | exact Try.underlying5 | exact Try.underlying21 | exact Try.underlying25 | exact Try.underlying33 | exact Try.underlying53 | exact Try.underlying89) ?_; (first | refine Plan.int (i64u8 _) ?_ | refine Plan.int (i64r (by omega)) ?_ | refine Plan.int (u64r (by omega)) ?_ | refine Plan.int (u8r (by omega)) ?_ | refine Plan.int (u16r (by omega)) ?_ | refine Plan.int (quoN (by omega)) ?_ | refine Plan.int (remN _ _) ?_ | refine Plan.int (u8N _) ?_ | skip))
    | refine Plan.nilOk rfl rfl rfl rfl ?_
    | refine Plan.fieldC (m := 0) rfl rfl rfl rfl (by first | exact Try.underlying65 | exact Try.underlying67 | exact Try.underlying73) rfl (by kernel_rfl) (by first | exact (show _ = 0 from rfl) | exact (show _ = 1 from rfl) | exact (show _ = 2 from rfl) | exact (show _ = 3 from rfl) | exact (show _ = 4 from rfl) | exact (show _ = 5 from rfl) | exact (show _ = 6 from rfl) | exact (show _ = 7 from rfl) | exact (show _ = 8 from rfl) | exact (show _ = 9 from rfl) | exact (show _ = 10 from rfl) | exact (show _ = 11 from rfl) | exact (show _ = 12 from rfl) | exact (show _ = 13 from rfl) | exact (show _ = 14 from rfl) | exact (show _ = 15 from rfl) | exact (show _ = 16 from rfl) | exact (show _ = 17 from rfl) | exact (show _ = 18 from rfl) | exact (show _ = 19 from rfl) | exact (show _ = 20 from rfl) | exact (show _ = 21 from rfl) | exact (show _ = 22 from rfl) | exact (show _ = 23 from rfl) | exact (show _ = 24 from rfl) | exact (show _ = 25 from rfl) | exact (show _ = 26 from rfl) | exact (show _ = 27 from rfl) | exact (show _ = 28 from rfl) | exact (show _ = 29 from rfl) | exact (show _ = 30 from rfl) | exact (show _ = 31 from rfl)) ?_
    | refine Plan.loadC (key := 1000) (q := 0) rfl rfl rfl rfl rfl rfl (obj_reads1 rfl) (by first | exact Try.underlying3 | exact Try.underlying9 | exact Try.underlying27 | exact Try.underlying4 | exact Try.underlying5 | exact Try.underlying33) (by rfl) (by decide) ?_
    | refine Plan.loadC (key := 1000) (q := 1) rfl rfl rfl rfl rfl rfl (obj_reads1 rfl) (by first | exact Try.underlying3 | exact Try.underlying9 | exact Try.underlying27 | exact Try.underlying4 | exact Try.underlying5 | exact Try.underlying33) (by rfl) (by decide) ?_
    | refine Plan.loadC (key := 1000) (q := 2) rfl rfl rfl rfl rfl rfl (obj_reads1 rfl) (by first | exact Try.underlying3 | exact Try.underlying9 | exact Try.underlying27 | exact Try.underlying4 | exact Try.underlying5 | exact Try.underlying33) (by rfl) (by decide) ?_
    | refine Plan.eqlPtr rfl rfl rfl rfl (by kernel_rfl) ?_
    | refine Plan.neqPtr rfl rfl rfl rfl (by kernel_rfl) ?_
    | refine J.seq (J.region mixed hI (by kernel_rfl) ?_)
    | refine J.region mixed hI (by kernel_rfl) ?_
    | refine J.seq (J.seq (J.region mixed hI (by kernel_rfl) ?_))
    | refine J.condF rfl ?_
    | refine J.condT rfl ?_
    | refine J.skip ?_)
  refine J.block (J.loop (playE w0 sc β γ R) (fun s => s.1 ≤ sc.length ∧ s.2.2 ≤ s.2.1.length ∧ s.2.1.length ≤ R) (fun s => sc.length - s.1) (0, [], 0) ⟨Nat.zero_le _, by simp, by simp⟩ ?_ ?_)
  · repeat (first | exact Weak.nil | refine Weak.cons rfl (Sub.refl _) ?_)
  rintro ⟨i, l, f⟩ ⟨hi, hf, hlR⟩
  dsimp only at hi hf hlR
  repeat (first
    | refine Plan.move rfl rfl rfl rfl ?_
    | refine Plan.assign rfl rfl rfl rfl ?_
    | refine Plan.skip rfl rfl ?_
    | refine Plan.extract rfl rfl rfl rfl rfl ?_
    | refine Plan.pick rfl rfl rfl rfl rfl ?_
    | refine Plan.lenStr rfl rfl rfl rfl Try.underlying9 ?_
    | refine Plan.lenE rfl rfl rfl rfl Try.underlying27 ?_
    | (refine Plan.ints rfl rfl rfl rfl rfl rfl ?_; (first | refine Plan.int (i64u8 _) ?_ | refine Plan.int (i64r (by omega)) ?_ | refine Plan.int (u64r (by omega)) ?_ | refine Plan.int (u8r (by omega)) ?_ | refine Plan.int (u16r (by omega)) ?_ | refine Plan.int (quoN (by omega)) ?_ | refine Plan.int (remN _ _) ?_ | refine Plan.int (u8N _) ?_ | skip))
    | refine Plan.un rfl rfl rfl rfl rfl ?_
    | refine Plan.lenB rfl rfl rfl rfl (by first | exact Sub.refl _ | exact Sub.own | exact Sub.old (fun _ h => h) | exact Sub.oldOwn (fun _ h => h) | exact Sub.nilRow | exact Sub.ownLower hB | exact Sub.nilOwn (fun _ h => Nat.le_trans hB h.size)) Try.underlying27 ?_
    | (refine Plan.convInt rfl rfl rfl rfl (by first | exact Try.underlying2 | exact Try.underlying3 | exact Try.underlying5 | exact Try.underlying21 | exact Try.underlying25 | exact Try.underlying33 | exact Try.underlying53 | exact Try.underlying89) (by first | exact Try.underlying2 | exact Try.underlying3 | exact Try.underlying5 | exact Try.underlying21 | exact Try.underlying25 | exact Try.underlying33 | exact Try.underlying53 | exact Try.underlying89) ?_; (first | refine Plan.int (i64u8 _) ?_ | refine Plan.int (i64r (by omega)) ?_ | refine Plan.int (u64r (by omega)) ?_ | refine Plan.int (u8r (by omega)) ?_ | refine Plan.int (u16r (by omega)) ?_ | refine Plan.int (quoN (by omega)) ?_ | refine Plan.int (remN _ _) ?_ | refine Plan.int (u8N _) ?_ | skip))
    | refine Plan.nilOk rfl rfl rfl rfl ?_
    | refine Plan.fieldC (m := 0) rfl rfl rfl rfl (by first | exact Try.underlying65 | exact Try.underlying67 | exact Try.underlying73) rfl (by kernel_rfl) (by first | exact (show _ = 0 from rfl) | exact (show _ = 1 from rfl) | exact (show _ = 2 from rfl) | exact (show _ = 3 from rfl) | exact (show _ = 4 from rfl) | exact (show _ = 5 from rfl) | exact (show _ = 6 from rfl) | exact (show _ = 7 from rfl) | exact (show _ = 8 from rfl) | exact (show _ = 9 from rfl) | exact (show _ = 10 from rfl) | exact (show _ = 11 from rfl) | exact (show _ = 12 from rfl) | exact (show _ = 13 from rfl) | exact (show _ = 14 from rfl) | exact (show _ = 15 from rfl) | exact (show _ = 16 from rfl) | exact (show _ = 17 from rfl) | exact (show _ = 18 from rfl) | exact (show _ = 19 from rfl) | exact (show _ = 20 from rfl) | exact (show _ = 21 from rfl) | exact (show _ = 22 from rfl) | exact (show _ = 23 from rfl) | exact (show _ = 24 from rfl) | exact (show _ = 25 from rfl) | exact (show _ = 26 from rfl) | exact (show _ = 27 from rfl) | exact (show _ = 28 from rfl) | exact (show _ = 29 from rfl) | exact (show _ = 30 from rfl) | exact (show _ = 31 from rfl)) ?_
    | refine Plan.loadC (key := 1000) (q := 0) rfl rfl rfl rfl rfl rfl (obj_reads1 rfl) (by first | exact Try.underlying3 | exact Try.underlying9 | exact Try.underlying27 | exact Try.underlying4 | exact Try.underlying5 | exact Try.underlying33) (by rfl) (by decide) ?_
    | refine Plan.loadC (key := 1000) (q := 1) rfl rfl rfl rfl rfl rfl (obj_reads1 rfl) (by first | exact Try.underlying3 | exact Try.underlying9 | exact Try.underlying27 | exact Try.underlying4 | exact Try.underlying5 | exact Try.underlying33) (by rfl) (by decide) ?_
    | refine Plan.loadC (key := 1000) (q := 2) rfl rfl rfl rfl rfl rfl (obj_reads1 rfl) (by first | exact Try.underlying3 | exact Try.underlying9 | exact Try.underlying27 | exact Try.underlying4 | exact Try.underlying5 | exact Try.underlying33) (by rfl) (by decide) ?_
    | refine Plan.eqlPtr rfl rfl rfl rfl (by kernel_rfl) ?_
    | refine Plan.neqPtr rfl rfl rfl rfl (by kernel_rfl) ?_
    | refine J.seq (J.region mixed hI (by kernel_rfl) ?_)
    | refine J.region mixed hI (by kernel_rfl) ?_
    | refine J.seq (J.seq (J.region mixed hI (by kernel_rfl) ?_))
    | refine J.condF rfl ?_
    | refine J.condT rfl ?_
    | refine J.skip ?_)
  refine J.seq (J.condD rfl (fun hlt => ?_) (fun hlt => ?_))
  · have hlt' : i < sc.length := by
      dsimp only at hlt; omega
    have hget : sc.getD i dv0 = sc[i] := by simp [List.getD_eq_getElem?_getD, List.getElem?_eq_getElem hlt']
    obtain ⟨o, ho⟩ : ∃ o, o = sc[i] := ⟨_, rfl⟩
    have hoM : o ∈ sc := by rw [ho]; exact List.getElem_mem hlt'
    have hoV := hok o hoM
    have hoS := hsmall o hoM
    rw [← ho] at hget
    obtain ⟨⟨⟨l', f'⟩, e'⟩, hd⟩ : ∃ x, dStep o (l, f) R = x := ⟨_, rfl⟩
    have hst := dStep_ok o (l, f) R ⟨hf, hlR⟩
    rw [hd] at hst
    dsimp only at hst
    repeat (first
    | refine Plan.move rfl rfl rfl rfl ?_
    | refine Plan.assign rfl rfl rfl rfl ?_
    | refine Plan.skip rfl rfl ?_
    | refine Plan.extract rfl rfl rfl rfl rfl ?_
    | refine Plan.pick rfl rfl rfl rfl rfl ?_
    | refine Plan.lenStr rfl rfl rfl rfl Try.underlying9 ?_
    | refine Plan.lenE rfl rfl rfl rfl Try.underlying27 ?_
    | (refine Plan.ints rfl rfl rfl rfl rfl rfl ?_; (first | refine Plan.int (i64u8 _) ?_ | refine Plan.int (i64r (by omega)) ?_ | refine Plan.int (u64r (by omega)) ?_ | refine Plan.int (u8r (by omega)) ?_ | refine Plan.int (u16r (by omega)) ?_ | refine Plan.int (quoN (by omega)) ?_ | refine Plan.int (remN _ _) ?_ | refine Plan.int (u8N _) ?_ | skip))
    | refine Plan.un rfl rfl rfl rfl rfl ?_
    | refine Plan.lenB rfl rfl rfl rfl (by first | exact Sub.refl _ | exact Sub.own | exact Sub.old (fun _ h => h) | exact Sub.oldOwn (fun _ h => h) | exact Sub.nilRow | exact Sub.ownLower hB | exact Sub.nilOwn (fun _ h => Nat.le_trans hB h.size)) Try.underlying27 ?_
    | (refine Plan.convInt rfl rfl rfl rfl (by first | exact Try.underlying2 | exact Try.underlying3 | exact Try.underlying5 | exact Try.underlying21 | exact Try.underlying25 | exact Try.underlying33 | exact Try.underlying53 | exact Try.underlying89) (by first | exact Try.underlying2 | exact Try.underlying3 | exact Try.underlying5 | exact Try.underlying21 | exact Try.underlying25 | exact Try.underlying33 | exact Try.underlying53 | exact Try.underlying89) ?_; (first | refine Plan.int (i64u8 _) ?_ | refine Plan.int (i64r (by omega)) ?_ | refine Plan.int (u64r (by omega)) ?_ | refine Plan.int (u8r (by omega)) ?_ | refine Plan.int (u16r (by omega)) ?_ | refine Plan.int (quoN (by omega)) ?_ | refine Plan.int (remN _ _) ?_ | refine Plan.int (u8N _) ?_ | skip))
    | refine Plan.nilOk rfl rfl rfl rfl ?_
    | refine Plan.fieldC (m := 0) rfl rfl rfl rfl (by first | exact Try.underlying65 | exact Try.underlying67 | exact Try.underlying73) rfl (by kernel_rfl) (by first | exact (show _ = 0 from rfl) | exact (show _ = 1 from rfl) | exact (show _ = 2 from rfl) | exact (show _ = 3 from rfl) | exact (show _ = 4 from rfl) | exact (show _ = 5 from rfl) | exact (show _ = 6 from rfl) | exact (show _ = 7 from rfl) | exact (show _ = 8 from rfl) | exact (show _ = 9 from rfl) | exact (show _ = 10 from rfl) | exact (show _ = 11 from rfl) | exact (show _ = 12 from rfl) | exact (show _ = 13 from rfl) | exact (show _ = 14 from rfl) | exact (show _ = 15 from rfl) | exact (show _ = 16 from rfl) | exact (show _ = 17 from rfl) | exact (show _ = 18 from rfl) | exact (show _ = 19 from rfl) | exact (show _ = 20 from rfl) | exact (show _ = 21 from rfl) | exact (show _ = 22 from rfl) | exact (show _ = 23 from rfl) | exact (show _ = 24 from rfl) | exact (show _ = 25 from rfl) | exact (show _ = 26 from rfl) | exact (show _ = 27 from rfl) | exact (show _ = 28 from rfl) | exact (show _ = 29 from rfl) | exact (show _ = 30 from rfl) | exact (show _ = 31 from rfl)) ?_
    | refine Plan.loadC (key := 1000) (q := 0) rfl rfl rfl rfl rfl rfl (obj_reads1 rfl) (by first | exact Try.underlying3 | exact Try.underlying9 | exact Try.underlying27 | exact Try.underlying4 | exact Try.underlying5 | exact Try.underlying33) (by rfl) (by decide) ?_
    | refine Plan.loadC (key := 1000) (q := 1) rfl rfl rfl rfl rfl rfl (obj_reads1 rfl) (by first | exact Try.underlying3 | exact Try.underlying9 | exact Try.underlying27 | exact Try.underlying4 | exact Try.underlying5 | exact Try.underlying33) (by rfl) (by decide) ?_
    | refine Plan.loadC (key := 1000) (q := 2) rfl rfl rfl rfl rfl rfl (obj_reads1 rfl) (by first | exact Try.underlying3 | exact Try.underlying9 | exact Try.underlying27 | exact Try.underlying4 | exact Try.underlying5 | exact Try.underlying33) (by rfl) (by decide) ?_
    | refine Plan.eqlPtr rfl rfl rfl rfl (by kernel_rfl) ?_
    | refine Plan.neqPtr rfl rfl rfl rfl (by kernel_rfl) ?_
    | refine J.seq (J.region mixed hI (by kernel_rfl) ?_)
    | refine J.region mixed hI (by kernel_rfl) ?_
    | refine J.seq (J.seq (J.region mixed hI (by kernel_rfl) ?_))
    | refine J.condF rfl ?_
    | refine J.condT rfl ?_
    | refine J.skip ?_)
    refine J.seq (J.block ?_)
    repeat (first
    | refine Plan.move rfl rfl rfl rfl ?_
    | refine Plan.assign rfl rfl rfl rfl ?_
    | refine Plan.skip rfl rfl ?_
    | refine Plan.extract rfl rfl rfl rfl rfl ?_
    | refine Plan.pick rfl rfl rfl rfl rfl ?_
    | refine Plan.lenStr rfl rfl rfl rfl Try.underlying9 ?_
    | refine Plan.lenE rfl rfl rfl rfl Try.underlying27 ?_
    | (refine Plan.ints rfl rfl rfl rfl rfl rfl ?_; (first | refine Plan.int (i64u8 _) ?_ | refine Plan.int (i64r (by omega)) ?_ | refine Plan.int (u64r (by omega)) ?_ | refine Plan.int (u8r (by omega)) ?_ | refine Plan.int (u16r (by omega)) ?_ | refine Plan.int (quoN (by omega)) ?_ | refine Plan.int (remN _ _) ?_ | refine Plan.int (u8N _) ?_ | skip))
    | refine Plan.un rfl rfl rfl rfl rfl ?_
    | refine Plan.lenB rfl rfl rfl rfl (by first | exact Sub.refl _ | exact Sub.own | exact Sub.old (fun _ h => h) | exact Sub.oldOwn (fun _ h => h) | exact Sub.nilRow | exact Sub.ownLower hB | exact Sub.nilOwn (fun _ h => Nat.le_trans hB h.size)) Try.underlying27 ?_
    | (refine Plan.convInt rfl rfl rfl rfl (by first | exact Try.underlying2 | exact Try.underlying3 | exact Try.underlying5 | exact Try.underlying21 | exact Try.underlying25 | exact Try.underlying33 | exact Try.underlying53 | exact Try.underlying89) (by first | exact Try.underlying2 | exact Try.underlying3 | exact Try.underlying5 | exact Try.underlying21 | exact Try.underlying25 | exact Try.underlying33 | exact Try.underlying53 | exact Try.underlying89) ?_; (first | refine Plan.int (i64u8 _) ?_ | refine Plan.int (i64r (by omega)) ?_ | refine Plan.int (u64r (by omega)) ?_ | refine Plan.int (u8r (by omega)) ?_ | refine Plan.int (u16r (by omega)) ?_ | refine Plan.int (quoN (by omega)) ?_ | refine Plan.int (remN _ _) ?_ | refine Plan.int (u8N _) ?_ | skip))
    | refine Plan.nilOk rfl rfl rfl rfl ?_
    | refine Plan.fieldC (m := 0) rfl rfl rfl rfl (by first | exact Try.underlying65 | exact Try.underlying67 | exact Try.underlying73) rfl (by kernel_rfl) (by first | exact (show _ = 0 from rfl) | exact (show _ = 1 from rfl) | exact (show _ = 2 from rfl) | exact (show _ = 3 from rfl) | exact (show _ = 4 from rfl) | exact (show _ = 5 from rfl) | exact (show _ = 6 from rfl) | exact (show _ = 7 from rfl) | exact (show _ = 8 from rfl) | exact (show _ = 9 from rfl) | exact (show _ = 10 from rfl) | exact (show _ = 11 from rfl) | exact (show _ = 12 from rfl) | exact (show _ = 13 from rfl) | exact (show _ = 14 from rfl) | exact (show _ = 15 from rfl) | exact (show _ = 16 from rfl) | exact (show _ = 17 from rfl) | exact (show _ = 18 from rfl) | exact (show _ = 19 from rfl) | exact (show _ = 20 from rfl) | exact (show _ = 21 from rfl) | exact (show _ = 22 from rfl) | exact (show _ = 23 from rfl) | exact (show _ = 24 from rfl) | exact (show _ = 25 from rfl) | exact (show _ = 26 from rfl) | exact (show _ = 27 from rfl) | exact (show _ = 28 from rfl) | exact (show _ = 29 from rfl) | exact (show _ = 30 from rfl) | exact (show _ = 31 from rfl)) ?_
    | refine Plan.loadC (key := 1000) (q := 0) rfl rfl rfl rfl rfl rfl (obj_reads1 rfl) (by first | exact Try.underlying3 | exact Try.underlying9 | exact Try.underlying27 | exact Try.underlying4 | exact Try.underlying5 | exact Try.underlying33) (by rfl) (by decide) ?_
    | refine Plan.loadC (key := 1000) (q := 1) rfl rfl rfl rfl rfl rfl (obj_reads1 rfl) (by first | exact Try.underlying3 | exact Try.underlying9 | exact Try.underlying27 | exact Try.underlying4 | exact Try.underlying5 | exact Try.underlying33) (by rfl) (by decide) ?_
    | refine Plan.loadC (key := 1000) (q := 2) rfl rfl rfl rfl rfl rfl (obj_reads1 rfl) (by first | exact Try.underlying3 | exact Try.underlying9 | exact Try.underlying27 | exact Try.underlying4 | exact Try.underlying5 | exact Try.underlying33) (by rfl) (by decide) ?_
    | refine Plan.eqlPtr rfl rfl rfl rfl (by kernel_rfl) ?_
    | refine Plan.neqPtr rfl rfl rfl rfl (by kernel_rfl) ?_
    | refine J.seq (J.region mixed hI (by kernel_rfl) ?_)
    | refine J.region mixed hI (by kernel_rfl) ?_
    | refine J.seq (J.seq (J.region mixed hI (by kernel_rfl) ?_))
    | refine J.condF rfl ?_
    | refine J.condT rfl ?_
    | refine J.skip ?_)
    refine Plan.indexAddr OpV.enc 5 sc dv0 rfl rfl rfl rfl (Sub.old fun _ h => h) rfl eltO encO (by omega) (by omega) ?_
    rw [Int.toNat_natCast, hget]
    refine Plan.loadAggP rfl rfl rfl rfl (Sub.refl _) Try.underlying67 rfl (by rw [encO]; kernel_rfl) ?_
    refine Plan.allocC (key := 1000) (z := .agg #[.int .i64 0, .int .i64 0, .int .i64 0, .int .i64 0, str []]) rfl rfl rfl (by intro _ e; cases e; decide) (by kernel_rfl) rfl hA fun ξ => ?_
    refine Plan.storeC (key := 1000) (q := 2) (off := 0) rfl rfl rfl rfl rfl rfl (by simp [Value.cells, Value.oneCell', OpV.enc, str]) (by show _ = some o.enc.toArray.size; kernel_rfl) rfl hA rfl (obj_pat (Nat.le_of_ble_eq_true rfl)) ?_
    refine J.convC (key := 1000) (q := 2) (c2 := obj ξ o.enc) rfl rfl (Ent.of_eq rfl) ?_
    repeat (first
    | refine Plan.move rfl rfl rfl rfl ?_
    | refine Plan.assign rfl rfl rfl rfl ?_
    | refine Plan.skip rfl rfl ?_
    | refine Plan.extract rfl rfl rfl rfl rfl ?_
    | refine Plan.pick rfl rfl rfl rfl rfl ?_
    | refine Plan.lenStr rfl rfl rfl rfl Try.underlying9 ?_
    | refine Plan.lenE rfl rfl rfl rfl Try.underlying27 ?_
    | (refine Plan.ints rfl rfl rfl rfl rfl rfl ?_; (first | refine Plan.int (i64u8 _) ?_ | refine Plan.int (i64r (by omega)) ?_ | refine Plan.int (u64r (by omega)) ?_ | refine Plan.int (u8r (by omega)) ?_ | refine Plan.int (u16r (by omega)) ?_ | refine Plan.int (quoN (by omega)) ?_ | refine Plan.int (remN _ _) ?_ | refine Plan.int (u8N _) ?_ | skip))
    | refine Plan.un rfl rfl rfl rfl rfl ?_
    | refine Plan.lenB rfl rfl rfl rfl (by first | exact Sub.refl _ | exact Sub.own | exact Sub.old (fun _ h => h) | exact Sub.oldOwn (fun _ h => h) | exact Sub.nilRow | exact Sub.ownLower hB | exact Sub.nilOwn (fun _ h => Nat.le_trans hB h.size)) Try.underlying27 ?_
    | (refine Plan.convInt rfl rfl rfl rfl (by first | exact Try.underlying2 | exact Try.underlying3 | exact Try.underlying5 | exact Try.underlying21 | exact Try.underlying25 | exact Try.underlying33 | exact Try.underlying53 | exact Try.underlying89) (by first | exact Try.underlying2 | exact Try.underlying3 | exact Try.underlying5 | exact Try.underlying21 | exact Try.underlying25 | exact Try.underlying33 | exact Try.underlying53 | exact Try.underlying89) ?_; (first | refine Plan.int (i64u8 _) ?_ | refine Plan.int (i64r (by omega)) ?_ | refine Plan.int (u64r (by omega)) ?_ | refine Plan.int (u8r (by omega)) ?_ | refine Plan.int (u16r (by omega)) ?_ | refine Plan.int (quoN (by omega)) ?_ | refine Plan.int (remN _ _) ?_ | refine Plan.int (u8N _) ?_ | skip))
    | refine Plan.nilOk rfl rfl rfl rfl ?_
    | refine Plan.fieldC (m := 0) rfl rfl rfl rfl (by first | exact Try.underlying65 | exact Try.underlying67 | exact Try.underlying73) rfl (by kernel_rfl) (by first | exact (show _ = 0 from rfl) | exact (show _ = 1 from rfl) | exact (show _ = 2 from rfl) | exact (show _ = 3 from rfl) | exact (show _ = 4 from rfl) | exact (show _ = 5 from rfl) | exact (show _ = 6 from rfl) | exact (show _ = 7 from rfl) | exact (show _ = 8 from rfl) | exact (show _ = 9 from rfl) | exact (show _ = 10 from rfl) | exact (show _ = 11 from rfl) | exact (show _ = 12 from rfl) | exact (show _ = 13 from rfl) | exact (show _ = 14 from rfl) | exact (show _ = 15 from rfl) | exact (show _ = 16 from rfl) | exact (show _ = 17 from rfl) | exact (show _ = 18 from rfl) | exact (show _ = 19 from rfl) | exact (show _ = 20 from rfl) | exact (show _ = 21 from rfl) | exact (show _ = 22 from rfl) | exact (show _ = 23 from rfl) | exact (show _ = 24 from rfl) | exact (show _ = 25 from rfl) | exact (show _ = 26 from rfl) | exact (show _ = 27 from rfl) | exact (show _ = 28 from rfl) | exact (show _ = 29 from rfl) | exact (show _ = 30 from rfl) | exact (show _ = 31 from rfl)) ?_
    | refine Plan.loadC (key := 1000) (q := 0) rfl rfl rfl rfl rfl rfl (obj_reads1 rfl) (by first | exact Try.underlying3 | exact Try.underlying9 | exact Try.underlying27 | exact Try.underlying4 | exact Try.underlying5 | exact Try.underlying33) (by rfl) (by decide) ?_
    | refine Plan.loadC (key := 1000) (q := 1) rfl rfl rfl rfl rfl rfl (obj_reads1 rfl) (by first | exact Try.underlying3 | exact Try.underlying9 | exact Try.underlying27 | exact Try.underlying4 | exact Try.underlying5 | exact Try.underlying33) (by rfl) (by decide) ?_
    | refine Plan.loadC (key := 1000) (q := 2) rfl rfl rfl rfl rfl rfl (obj_reads1 rfl) (by first | exact Try.underlying3 | exact Try.underlying9 | exact Try.underlying27 | exact Try.underlying4 | exact Try.underlying5 | exact Try.underlying33) (by rfl) (by decide) ?_
    | refine Plan.eqlPtr rfl rfl rfl rfl (by kernel_rfl) ?_
    | refine Plan.neqPtr rfl rfl rfl rfl (by kernel_rfl) ?_
    | refine J.seq (J.region mixed hI (by kernel_rfl) ?_)
    | refine J.region mixed hI (by kernel_rfl) ?_
    | refine J.seq (J.seq (J.region mixed hI (by kernel_rfl) ?_))
    | refine J.condF rfl ?_
    | refine J.condT rfl ?_
    | refine J.skip ?_)
    refine Plan.loadAggC (key := 1000) (q := 2) (vs := o.enc) rfl rfl rfl rfl rfl rfl (obj_reads rfl) Try.underlying67 rfl (by rw [encO]; kernel_rfl) (by decide) ?_
    refine Plan.callC (key := 1000) (q := 0) rfl rfl rfl (does_fn o β l f R l' f' e' hoV hoS ⟨hf, hlR⟩ hR hd) Try.func35 rfl rfl (by intro _ e; cases e; decide) (by repeat (first | exact Opnds.nil | refine Opnds.cons rfl (by first | exact Sub.refl _ | exact Sub.own | exact Sub.old (fun _ h => h) | exact Sub.oldOwn (fun _ h => h) | exact Sub.nilRow) ?_)) rfl hA rfl ?_
    intro _ _
    repeat (first
    | refine Plan.move rfl rfl rfl rfl ?_
    | refine Plan.assign rfl rfl rfl rfl ?_
    | refine Plan.skip rfl rfl ?_
    | refine Plan.extract rfl rfl rfl rfl rfl ?_
    | refine Plan.pick rfl rfl rfl rfl rfl ?_
    | refine Plan.lenStr rfl rfl rfl rfl Try.underlying9 ?_
    | refine Plan.lenE rfl rfl rfl rfl Try.underlying27 ?_
    | (refine Plan.ints rfl rfl rfl rfl rfl rfl ?_; (first | refine Plan.int (i64u8 _) ?_ | refine Plan.int (i64r (by omega)) ?_ | refine Plan.int (u64r (by omega)) ?_ | refine Plan.int (u8r (by omega)) ?_ | refine Plan.int (u16r (by omega)) ?_ | refine Plan.int (quoN (by omega)) ?_ | refine Plan.int (remN _ _) ?_ | refine Plan.int (u8N _) ?_ | skip))
    | refine Plan.un rfl rfl rfl rfl rfl ?_
    | refine Plan.lenB rfl rfl rfl rfl (by first | exact Sub.refl _ | exact Sub.own | exact Sub.old (fun _ h => h) | exact Sub.oldOwn (fun _ h => h) | exact Sub.nilRow | exact Sub.ownLower hB | exact Sub.nilOwn (fun _ h => Nat.le_trans hB h.size)) Try.underlying27 ?_
    | (refine Plan.convInt rfl rfl rfl rfl (by first | exact Try.underlying2 | exact Try.underlying3 | exact Try.underlying5 | exact Try.underlying21 | exact Try.underlying25 | exact Try.underlying33 | exact Try.underlying53 | exact Try.underlying89) (by first | exact Try.underlying2 | exact Try.underlying3 | exact Try.underlying5 | exact Try.underlying21 | exact Try.underlying25 | exact Try.underlying33 | exact Try.underlying53 | exact Try.underlying89) ?_; (first | refine Plan.int (i64u8 _) ?_ | refine Plan.int (i64r (by omega)) ?_ | refine Plan.int (u64r (by omega)) ?_ | refine Plan.int (u8r (by omega)) ?_ | refine Plan.int (u16r (by omega)) ?_ | refine Plan.int (quoN (by omega)) ?_ | refine Plan.int (remN _ _) ?_ | refine Plan.int (u8N _) ?_ | skip))
    | refine Plan.nilOk rfl rfl rfl rfl ?_
    | refine Plan.fieldC (m := 0) rfl rfl rfl rfl (by first | exact Try.underlying65 | exact Try.underlying67 | exact Try.underlying73) rfl (by kernel_rfl) (by first | exact (show _ = 0 from rfl) | exact (show _ = 1 from rfl) | exact (show _ = 2 from rfl) | exact (show _ = 3 from rfl) | exact (show _ = 4 from rfl) | exact (show _ = 5 from rfl) | exact (show _ = 6 from rfl) | exact (show _ = 7 from rfl) | exact (show _ = 8 from rfl) | exact (show _ = 9 from rfl) | exact (show _ = 10 from rfl) | exact (show _ = 11 from rfl) | exact (show _ = 12 from rfl) | exact (show _ = 13 from rfl) | exact (show _ = 14 from rfl) | exact (show _ = 15 from rfl) | exact (show _ = 16 from rfl) | exact (show _ = 17 from rfl) | exact (show _ = 18 from rfl) | exact (show _ = 19 from rfl) | exact (show _ = 20 from rfl) | exact (show _ = 21 from rfl) | exact (show _ = 22 from rfl) | exact (show _ = 23 from rfl) | exact (show _ = 24 from rfl) | exact (show _ = 25 from rfl) | exact (show _ = 26 from rfl) | exact (show _ = 27 from rfl) | exact (show _ = 28 from rfl) | exact (show _ = 29 from rfl) | exact (show _ = 30 from rfl) | exact (show _ = 31 from rfl)) ?_
    | refine Plan.loadC (key := 1000) (q := 0) rfl rfl rfl rfl rfl rfl (obj_reads1 rfl) (by first | exact Try.underlying3 | exact Try.underlying9 | exact Try.underlying27 | exact Try.underlying4 | exact Try.underlying5 | exact Try.underlying33) (by rfl) (by decide) ?_
    | refine Plan.loadC (key := 1000) (q := 1) rfl rfl rfl rfl rfl rfl (obj_reads1 rfl) (by first | exact Try.underlying3 | exact Try.underlying9 | exact Try.underlying27 | exact Try.underlying4 | exact Try.underlying5 | exact Try.underlying33) (by rfl) (by decide) ?_
    | refine Plan.loadC (key := 1000) (q := 2) rfl rfl rfl rfl rfl rfl (obj_reads1 rfl) (by first | exact Try.underlying3 | exact Try.underlying9 | exact Try.underlying27 | exact Try.underlying4 | exact Try.underlying5 | exact Try.underlying33) (by rfl) (by decide) ?_
    | refine Plan.eqlPtr rfl rfl rfl rfl (by kernel_rfl) ?_
    | refine Plan.neqPtr rfl rfl rfl rfl (by kernel_rfl) ?_)
    refine J.seq (J.region mixed hI (by kernel_rfl) ?_)
    repeat (first
    | refine Plan.move rfl rfl rfl rfl ?_
    | refine Plan.assign rfl rfl rfl rfl ?_
    | refine Plan.skip rfl rfl ?_
    | refine Plan.extract rfl rfl rfl rfl rfl ?_
    | refine Plan.pick rfl rfl rfl rfl rfl ?_
    | refine Plan.lenStr rfl rfl rfl rfl Try.underlying9 ?_
    | refine Plan.lenE rfl rfl rfl rfl Try.underlying27 ?_
    | (refine Plan.ints rfl rfl rfl rfl rfl rfl ?_; (first | refine Plan.int (i64u8 _) ?_ | refine Plan.int (i64r (by omega)) ?_ | refine Plan.int (u64r (by omega)) ?_ | refine Plan.int (u8r (by omega)) ?_ | refine Plan.int (u16r (by omega)) ?_ | refine Plan.int (quoN (by omega)) ?_ | refine Plan.int (remN _ _) ?_ | refine Plan.int (u8N _) ?_ | skip))
    | refine Plan.un rfl rfl rfl rfl rfl ?_
    | refine Plan.lenB rfl rfl rfl rfl (by first | exact Sub.refl _ | exact Sub.own | exact Sub.old (fun _ h => h) | exact Sub.oldOwn (fun _ h => h) | exact Sub.nilRow | exact Sub.ownLower hB | exact Sub.nilOwn (fun _ h => Nat.le_trans hB h.size)) Try.underlying27 ?_
    | (refine Plan.convInt rfl rfl rfl rfl (by first | exact Try.underlying2 | exact Try.underlying3 | exact Try.underlying5 | exact Try.underlying21 | exact Try.underlying25 | exact Try.underlying33 | exact Try.underlying53 | exact Try.underlying89) (by first | exact Try.underlying2 | exact Try.underlying3 | exact Try.underlying5 | exact Try.underlying21 | exact Try.underlying25 | exact Try.underlying33 | exact Try.underlying53 | exact Try.underlying89) ?_; (first | refine Plan.int (i64u8 _) ?_ | refine Plan.int (i64r (by omega)) ?_ | refine Plan.int (u64r (by omega)) ?_ | refine Plan.int (u8r (by omega)) ?_ | refine Plan.int (u16r (by omega)) ?_ | refine Plan.int (quoN (by omega)) ?_ | refine Plan.int (remN _ _) ?_ | refine Plan.int (u8N _) ?_ | skip))
    | refine Plan.nilOk rfl rfl rfl rfl ?_
    | refine Plan.fieldC (m := 0) rfl rfl rfl rfl (by first | exact Try.underlying65 | exact Try.underlying67 | exact Try.underlying73) rfl (by kernel_rfl) (by first | exact (show _ = 0 from rfl) | exact (show _ = 1 from rfl) | exact (show _ = 2 from rfl) | exact (show _ = 3 from rfl) | exact (show _ = 4 from rfl) | exact (show _ = 5 from rfl) | exact (show _ = 6 from rfl) | exact (show _ = 7 from rfl) | exact (show _ = 8 from rfl) | exact (show _ = 9 from rfl) | exact (show _ = 10 from rfl) | exact (show _ = 11 from rfl) | exact (show _ = 12 from rfl) | exact (show _ = 13 from rfl) | exact (show _ = 14 from rfl) | exact (show _ = 15 from rfl) | exact (show _ = 16 from rfl) | exact (show _ = 17 from rfl) | exact (show _ = 18 from rfl) | exact (show _ = 19 from rfl) | exact (show _ = 20 from rfl) | exact (show _ = 21 from rfl) | exact (show _ = 22 from rfl) | exact (show _ = 23 from rfl) | exact (show _ = 24 from rfl) | exact (show _ = 25 from rfl) | exact (show _ = 26 from rfl) | exact (show _ = 27 from rfl) | exact (show _ = 28 from rfl) | exact (show _ = 29 from rfl) | exact (show _ = 30 from rfl) | exact (show _ = 31 from rfl)) ?_
    | refine Plan.loadC (key := 1000) (q := 0) rfl rfl rfl rfl rfl rfl (obj_reads1 rfl) (by first | exact Try.underlying3 | exact Try.underlying9 | exact Try.underlying27 | exact Try.underlying4 | exact Try.underlying5 | exact Try.underlying33) (by rfl) (by decide) ?_
    | refine Plan.loadC (key := 1000) (q := 1) rfl rfl rfl rfl rfl rfl (obj_reads1 rfl) (by first | exact Try.underlying3 | exact Try.underlying9 | exact Try.underlying27 | exact Try.underlying4 | exact Try.underlying5 | exact Try.underlying33) (by rfl) (by decide) ?_
    | refine Plan.loadC (key := 1000) (q := 2) rfl rfl rfl rfl rfl rfl (obj_reads1 rfl) (by first | exact Try.underlying3 | exact Try.underlying9 | exact Try.underlying27 | exact Try.underlying4 | exact Try.underlying5 | exact Try.underlying33) (by rfl) (by decide) ?_
    | refine Plan.eqlPtr rfl rfl rfl rfl (by kernel_rfl) ?_
    | refine Plan.neqPtr rfl rfl rfl rfl (by kernel_rfl) ?_)
    refine J.seqMid (σ := Unit) (fun _ => midE w0 sc β γ R ξ i o.enc l' f' e') (fun _ => True) ?_ ?_
    · repeat (first
    | refine Plan.move rfl rfl rfl rfl ?_
    | refine Plan.assign rfl rfl rfl rfl ?_
    | refine Plan.skip rfl rfl ?_
    | refine Plan.extract rfl rfl rfl rfl rfl ?_
    | refine Plan.pick rfl rfl rfl rfl rfl ?_
    | refine Plan.lenStr rfl rfl rfl rfl Try.underlying9 ?_
    | refine Plan.lenE rfl rfl rfl rfl Try.underlying27 ?_
    | (refine Plan.ints rfl rfl rfl rfl rfl rfl ?_; (first | refine Plan.int (i64u8 _) ?_ | refine Plan.int (i64r (by omega)) ?_ | refine Plan.int (u64r (by omega)) ?_ | refine Plan.int (u8r (by omega)) ?_ | refine Plan.int (u16r (by omega)) ?_ | refine Plan.int (quoN (by omega)) ?_ | refine Plan.int (remN _ _) ?_ | refine Plan.int (u8N _) ?_ | skip))
    | refine Plan.un rfl rfl rfl rfl rfl ?_
    | refine Plan.lenB rfl rfl rfl rfl (by first | exact Sub.refl _ | exact Sub.own | exact Sub.old (fun _ h => h) | exact Sub.oldOwn (fun _ h => h) | exact Sub.nilRow | exact Sub.ownLower hB | exact Sub.nilOwn (fun _ h => Nat.le_trans hB h.size)) Try.underlying27 ?_
    | (refine Plan.convInt rfl rfl rfl rfl (by first | exact Try.underlying2 | exact Try.underlying3 | exact Try.underlying5 | exact Try.underlying21 | exact Try.underlying25 | exact Try.underlying33 | exact Try.underlying53 | exact Try.underlying89) (by first | exact Try.underlying2 | exact Try.underlying3 | exact Try.underlying5 | exact Try.underlying21 | exact Try.underlying25 | exact Try.underlying33 | exact Try.underlying53 | exact Try.underlying89) ?_; (first | refine Plan.int (i64u8 _) ?_ | refine Plan.int (i64r (by omega)) ?_ | refine Plan.int (u64r (by omega)) ?_ | refine Plan.int (u8r (by omega)) ?_ | refine Plan.int (u16r (by omega)) ?_ | refine Plan.int (quoN (by omega)) ?_ | refine Plan.int (remN _ _) ?_ | refine Plan.int (u8N _) ?_ | skip))
    | refine Plan.nilOk rfl rfl rfl rfl ?_
    | refine Plan.fieldC (m := 0) rfl rfl rfl rfl (by first | exact Try.underlying65 | exact Try.underlying67 | exact Try.underlying73) rfl (by kernel_rfl) (by first | exact (show _ = 0 from rfl) | exact (show _ = 1 from rfl) | exact (show _ = 2 from rfl) | exact (show _ = 3 from rfl) | exact (show _ = 4 from rfl) | exact (show _ = 5 from rfl) | exact (show _ = 6 from rfl) | exact (show _ = 7 from rfl) | exact (show _ = 8 from rfl) | exact (show _ = 9 from rfl) | exact (show _ = 10 from rfl) | exact (show _ = 11 from rfl) | exact (show _ = 12 from rfl) | exact (show _ = 13 from rfl) | exact (show _ = 14 from rfl) | exact (show _ = 15 from rfl) | exact (show _ = 16 from rfl) | exact (show _ = 17 from rfl) | exact (show _ = 18 from rfl) | exact (show _ = 19 from rfl) | exact (show _ = 20 from rfl) | exact (show _ = 21 from rfl) | exact (show _ = 22 from rfl) | exact (show _ = 23 from rfl) | exact (show _ = 24 from rfl) | exact (show _ = 25 from rfl) | exact (show _ = 26 from rfl) | exact (show _ = 27 from rfl) | exact (show _ = 28 from rfl) | exact (show _ = 29 from rfl) | exact (show _ = 30 from rfl) | exact (show _ = 31 from rfl)) ?_
    | refine Plan.loadC (key := 1000) (q := 0) rfl rfl rfl rfl rfl rfl (obj_reads1 rfl) (by first | exact Try.underlying3 | exact Try.underlying9 | exact Try.underlying27 | exact Try.underlying4 | exact Try.underlying5 | exact Try.underlying33) (by rfl) (by decide) ?_
    | refine Plan.loadC (key := 1000) (q := 1) rfl rfl rfl rfl rfl rfl (obj_reads1 rfl) (by first | exact Try.underlying3 | exact Try.underlying9 | exact Try.underlying27 | exact Try.underlying4 | exact Try.underlying5 | exact Try.underlying33) (by rfl) (by decide) ?_
    | refine Plan.loadC (key := 1000) (q := 2) rfl rfl rfl rfl rfl rfl (obj_reads1 rfl) (by first | exact Try.underlying3 | exact Try.underlying9 | exact Try.underlying27 | exact Try.underlying4 | exact Try.underlying5 | exact Try.underlying33) (by rfl) (by decide) ?_
    | refine Plan.eqlPtr rfl rfl rfl rfl (by kernel_rfl) ?_
    | refine Plan.neqPtr rfl rfl rfl rfl (by kernel_rfl) ?_
    | refine J.seq (J.region mixed hI (by kernel_rfl) ?_)
    | refine J.region mixed hI (by kernel_rfl) ?_
    | refine J.seq (J.seq (J.region mixed hI (by kernel_rfl) ?_))
    | refine J.condF rfl ?_
    | refine J.condT rfl ?_
    | refine J.skip ?_)
      refine J.block ?_
      repeat (first
    | refine Plan.move rfl rfl rfl rfl ?_
    | refine Plan.assign rfl rfl rfl rfl ?_
    | refine Plan.skip rfl rfl ?_
    | refine Plan.extract rfl rfl rfl rfl rfl ?_
    | refine Plan.pick rfl rfl rfl rfl rfl ?_
    | refine Plan.lenStr rfl rfl rfl rfl Try.underlying9 ?_
    | refine Plan.lenE rfl rfl rfl rfl Try.underlying27 ?_
    | (refine Plan.ints rfl rfl rfl rfl rfl rfl ?_; (first | refine Plan.int (i64u8 _) ?_ | refine Plan.int (i64r (by omega)) ?_ | refine Plan.int (u64r (by omega)) ?_ | refine Plan.int (u8r (by omega)) ?_ | refine Plan.int (u16r (by omega)) ?_ | refine Plan.int (quoN (by omega)) ?_ | refine Plan.int (remN _ _) ?_ | refine Plan.int (u8N _) ?_ | skip))
    | refine Plan.un rfl rfl rfl rfl rfl ?_
    | refine Plan.lenB rfl rfl rfl rfl (by first | exact Sub.refl _ | exact Sub.own | exact Sub.old (fun _ h => h) | exact Sub.oldOwn (fun _ h => h) | exact Sub.nilRow | exact Sub.ownLower hB | exact Sub.nilOwn (fun _ h => Nat.le_trans hB h.size)) Try.underlying27 ?_
    | (refine Plan.convInt rfl rfl rfl rfl (by first | exact Try.underlying2 | exact Try.underlying3 | exact Try.underlying5 | exact Try.underlying21 | exact Try.underlying25 | exact Try.underlying33 | exact Try.underlying53 | exact Try.underlying89) (by first | exact Try.underlying2 | exact Try.underlying3 | exact Try.underlying5 | exact Try.underlying21 | exact Try.underlying25 | exact Try.underlying33 | exact Try.underlying53 | exact Try.underlying89) ?_; (first | refine Plan.int (i64u8 _) ?_ | refine Plan.int (i64r (by omega)) ?_ | refine Plan.int (u64r (by omega)) ?_ | refine Plan.int (u8r (by omega)) ?_ | refine Plan.int (u16r (by omega)) ?_ | refine Plan.int (quoN (by omega)) ?_ | refine Plan.int (remN _ _) ?_ | refine Plan.int (u8N _) ?_ | skip))
    | refine Plan.nilOk rfl rfl rfl rfl ?_
    | refine Plan.fieldC (m := 0) rfl rfl rfl rfl (by first | exact Try.underlying65 | exact Try.underlying67 | exact Try.underlying73) rfl (by kernel_rfl) (by first | exact (show _ = 0 from rfl) | exact (show _ = 1 from rfl) | exact (show _ = 2 from rfl) | exact (show _ = 3 from rfl) | exact (show _ = 4 from rfl) | exact (show _ = 5 from rfl) | exact (show _ = 6 from rfl) | exact (show _ = 7 from rfl) | exact (show _ = 8 from rfl) | exact (show _ = 9 from rfl) | exact (show _ = 10 from rfl) | exact (show _ = 11 from rfl) | exact (show _ = 12 from rfl) | exact (show _ = 13 from rfl) | exact (show _ = 14 from rfl) | exact (show _ = 15 from rfl) | exact (show _ = 16 from rfl) | exact (show _ = 17 from rfl) | exact (show _ = 18 from rfl) | exact (show _ = 19 from rfl) | exact (show _ = 20 from rfl) | exact (show _ = 21 from rfl) | exact (show _ = 22 from rfl) | exact (show _ = 23 from rfl) | exact (show _ = 24 from rfl) | exact (show _ = 25 from rfl) | exact (show _ = 26 from rfl) | exact (show _ = 27 from rfl) | exact (show _ = 28 from rfl) | exact (show _ = 29 from rfl) | exact (show _ = 30 from rfl) | exact (show _ = 31 from rfl)) ?_
    | refine Plan.loadC (key := 1000) (q := 0) rfl rfl rfl rfl rfl rfl (obj_reads1 rfl) (by first | exact Try.underlying3 | exact Try.underlying9 | exact Try.underlying27 | exact Try.underlying4 | exact Try.underlying5 | exact Try.underlying33) (by rfl) (by decide) ?_
    | refine Plan.loadC (key := 1000) (q := 1) rfl rfl rfl rfl rfl rfl (obj_reads1 rfl) (by first | exact Try.underlying3 | exact Try.underlying9 | exact Try.underlying27 | exact Try.underlying4 | exact Try.underlying5 | exact Try.underlying33) (by rfl) (by decide) ?_
    | refine Plan.loadC (key := 1000) (q := 2) rfl rfl rfl rfl rfl rfl (obj_reads1 rfl) (by first | exact Try.underlying3 | exact Try.underlying9 | exact Try.underlying27 | exact Try.underlying4 | exact Try.underlying5 | exact Try.underlying33) (by rfl) (by decide) ?_
    | refine Plan.eqlPtr rfl rfl rfl rfl (by kernel_rfl) ?_
    | refine Plan.neqPtr rfl rfl rfl rfl (by kernel_rfl) ?_
    | refine J.seq (J.region mixed hI (by kernel_rfl) ?_)
    | refine J.region mixed hI (by kernel_rfl) ?_
    | refine J.seq (J.seq (J.region mixed hI (by kernel_rfl) ?_))
    | refine J.condF rfl ?_
    | refine J.condT rfl ?_
    | refine J.skip ?_)
      refine J.condE rfl (fun k1 => ?_) (fun k1 => ?_)
      · repeat (first
    | refine Plan.move rfl rfl rfl rfl ?_
    | refine Plan.assign rfl rfl rfl rfl ?_
    | refine Plan.skip rfl rfl ?_
    | refine Plan.extract rfl rfl rfl rfl rfl ?_
    | refine Plan.pick rfl rfl rfl rfl rfl ?_
    | refine Plan.lenStr rfl rfl rfl rfl Try.underlying9 ?_
    | refine Plan.lenE rfl rfl rfl rfl Try.underlying27 ?_
    | (refine Plan.ints rfl rfl rfl rfl rfl rfl ?_; (first | refine Plan.int (i64u8 _) ?_ | refine Plan.int (i64r (by omega)) ?_ | refine Plan.int (u64r (by omega)) ?_ | refine Plan.int (u8r (by omega)) ?_ | refine Plan.int (u16r (by omega)) ?_ | refine Plan.int (quoN (by omega)) ?_ | refine Plan.int (remN _ _) ?_ | refine Plan.int (u8N _) ?_ | skip))
    | refine Plan.un rfl rfl rfl rfl rfl ?_
    | refine Plan.lenB rfl rfl rfl rfl (by first | exact Sub.refl _ | exact Sub.own | exact Sub.old (fun _ h => h) | exact Sub.oldOwn (fun _ h => h) | exact Sub.nilRow | exact Sub.ownLower hB | exact Sub.nilOwn (fun _ h => Nat.le_trans hB h.size)) Try.underlying27 ?_
    | (refine Plan.convInt rfl rfl rfl rfl (by first | exact Try.underlying2 | exact Try.underlying3 | exact Try.underlying5 | exact Try.underlying21 | exact Try.underlying25 | exact Try.underlying33 | exact Try.underlying53 | exact Try.underlying89) (by first | exact Try.underlying2 | exact Try.underlying3 | exact Try.underlying5 | exact Try.underlying21 | exact Try.underlying25 | exact Try.underlying33 | exact Try.underlying53 | exact Try.underlying89) ?_; (first | refine Plan.int (i64u8 _) ?_ | refine Plan.int (i64r (by omega)) ?_ | refine Plan.int (u64r (by omega)) ?_ | refine Plan.int (u8r (by omega)) ?_ | refine Plan.int (u16r (by omega)) ?_ | refine Plan.int (quoN (by omega)) ?_ | refine Plan.int (remN _ _) ?_ | refine Plan.int (u8N _) ?_ | skip))
    | refine Plan.nilOk rfl rfl rfl rfl ?_
    | refine Plan.fieldC (m := 0) rfl rfl rfl rfl (by first | exact Try.underlying65 | exact Try.underlying67 | exact Try.underlying73) rfl (by kernel_rfl) (by first | exact (show _ = 0 from rfl) | exact (show _ = 1 from rfl) | exact (show _ = 2 from rfl) | exact (show _ = 3 from rfl) | exact (show _ = 4 from rfl) | exact (show _ = 5 from rfl) | exact (show _ = 6 from rfl) | exact (show _ = 7 from rfl) | exact (show _ = 8 from rfl) | exact (show _ = 9 from rfl) | exact (show _ = 10 from rfl) | exact (show _ = 11 from rfl) | exact (show _ = 12 from rfl) | exact (show _ = 13 from rfl) | exact (show _ = 14 from rfl) | exact (show _ = 15 from rfl) | exact (show _ = 16 from rfl) | exact (show _ = 17 from rfl) | exact (show _ = 18 from rfl) | exact (show _ = 19 from rfl) | exact (show _ = 20 from rfl) | exact (show _ = 21 from rfl) | exact (show _ = 22 from rfl) | exact (show _ = 23 from rfl) | exact (show _ = 24 from rfl) | exact (show _ = 25 from rfl) | exact (show _ = 26 from rfl) | exact (show _ = 27 from rfl) | exact (show _ = 28 from rfl) | exact (show _ = 29 from rfl) | exact (show _ = 30 from rfl) | exact (show _ = 31 from rfl)) ?_
    | refine Plan.loadC (key := 1000) (q := 0) rfl rfl rfl rfl rfl rfl (obj_reads1 rfl) (by first | exact Try.underlying3 | exact Try.underlying9 | exact Try.underlying27 | exact Try.underlying4 | exact Try.underlying5 | exact Try.underlying33) (by rfl) (by decide) ?_
    | refine Plan.loadC (key := 1000) (q := 1) rfl rfl rfl rfl rfl rfl (obj_reads1 rfl) (by first | exact Try.underlying3 | exact Try.underlying9 | exact Try.underlying27 | exact Try.underlying4 | exact Try.underlying5 | exact Try.underlying33) (by rfl) (by decide) ?_
    | refine Plan.loadC (key := 1000) (q := 2) rfl rfl rfl rfl rfl rfl (obj_reads1 rfl) (by first | exact Try.underlying3 | exact Try.underlying9 | exact Try.underlying27 | exact Try.underlying4 | exact Try.underlying5 | exact Try.underlying33) (by rfl) (by decide) ?_
    | refine Plan.eqlPtr rfl rfl rfl rfl (by kernel_rfl) ?_
    | refine Plan.neqPtr rfl rfl rfl rfl (by kernel_rfl) ?_
    | refine J.seq (J.region mixed hI (by kernel_rfl) ?_)
    | refine J.region mixed hI (by kernel_rfl) ?_
    | refine J.seq (J.seq (J.region mixed hI (by kernel_rfl) ?_))
    | refine J.condF rfl ?_
    | refine J.condT rfl ?_
    | refine J.skip ?_)
        have hc := ref_Append γ l f R o.b hlR hR (by omega)
        by_cases hfit : l.length + o.b.length ≤ R
        · rw [if_pos hfit, if_pos hfit] at hc
          simp only [dStep, if_pos k1, if_pos hfit, Prod.mk.injEq] at hd
          obtain ⟨⟨rfl, rfl⟩, rfl⟩ := hd
          refine Plan.callC (key := 1000) (q := 1) rfl rfl rfl (hc) Try.func36 rfl rfl (by intro _ e; cases e; decide) (by repeat (first | exact Opnds.nil | refine Opnds.cons rfl (by first | exact Sub.refl _ | exact Sub.own | exact Sub.old (fun _ h => h) | exact Sub.oldOwn (fun _ h => h) | exact Sub.nilRow) ?_)) rfl hA rfl ?_
          intro _ _
          repeat (first
    | refine Plan.move rfl rfl rfl rfl ?_
    | refine Plan.assign rfl rfl rfl rfl ?_
    | refine Plan.skip rfl rfl ?_
    | refine Plan.extract rfl rfl rfl rfl rfl ?_
    | refine Plan.pick rfl rfl rfl rfl rfl ?_
    | refine Plan.lenStr rfl rfl rfl rfl Try.underlying9 ?_
    | refine Plan.lenE rfl rfl rfl rfl Try.underlying27 ?_
    | (refine Plan.ints rfl rfl rfl rfl rfl rfl ?_; (first | refine Plan.int (i64u8 _) ?_ | refine Plan.int (i64r (by omega)) ?_ | refine Plan.int (u64r (by omega)) ?_ | refine Plan.int (u8r (by omega)) ?_ | refine Plan.int (u16r (by omega)) ?_ | refine Plan.int (quoN (by omega)) ?_ | refine Plan.int (remN _ _) ?_ | refine Plan.int (u8N _) ?_ | skip))
    | refine Plan.un rfl rfl rfl rfl rfl ?_
    | refine Plan.lenB rfl rfl rfl rfl (by first | exact Sub.refl _ | exact Sub.own | exact Sub.old (fun _ h => h) | exact Sub.oldOwn (fun _ h => h) | exact Sub.nilRow | exact Sub.ownLower hB | exact Sub.nilOwn (fun _ h => Nat.le_trans hB h.size)) Try.underlying27 ?_
    | (refine Plan.convInt rfl rfl rfl rfl (by first | exact Try.underlying2 | exact Try.underlying3 | exact Try.underlying5 | exact Try.underlying21 | exact Try.underlying25 | exact Try.underlying33 | exact Try.underlying53 | exact Try.underlying89) (by first | exact Try.underlying2 | exact Try.underlying3 | exact Try.underlying5 | exact Try.underlying21 | exact Try.underlying25 | exact Try.underlying33 | exact Try.underlying53 | exact Try.underlying89) ?_; (first | refine Plan.int (i64u8 _) ?_ | refine Plan.int (i64r (by omega)) ?_ | refine Plan.int (u64r (by omega)) ?_ | refine Plan.int (u8r (by omega)) ?_ | refine Plan.int (u16r (by omega)) ?_ | refine Plan.int (quoN (by omega)) ?_ | refine Plan.int (remN _ _) ?_ | refine Plan.int (u8N _) ?_ | skip))
    | refine Plan.nilOk rfl rfl rfl rfl ?_
    | refine Plan.fieldC (m := 0) rfl rfl rfl rfl (by first | exact Try.underlying65 | exact Try.underlying67 | exact Try.underlying73) rfl (by kernel_rfl) (by first | exact (show _ = 0 from rfl) | exact (show _ = 1 from rfl) | exact (show _ = 2 from rfl) | exact (show _ = 3 from rfl) | exact (show _ = 4 from rfl) | exact (show _ = 5 from rfl) | exact (show _ = 6 from rfl) | exact (show _ = 7 from rfl) | exact (show _ = 8 from rfl) | exact (show _ = 9 from rfl) | exact (show _ = 10 from rfl) | exact (show _ = 11 from rfl) | exact (show _ = 12 from rfl) | exact (show _ = 13 from rfl) | exact (show _ = 14 from rfl) | exact (show _ = 15 from rfl) | exact (show _ = 16 from rfl) | exact (show _ = 17 from rfl) | exact (show _ = 18 from rfl) | exact (show _ = 19 from rfl) | exact (show _ = 20 from rfl) | exact (show _ = 21 from rfl) | exact (show _ = 22 from rfl) | exact (show _ = 23 from rfl) | exact (show _ = 24 from rfl) | exact (show _ = 25 from rfl) | exact (show _ = 26 from rfl) | exact (show _ = 27 from rfl) | exact (show _ = 28 from rfl) | exact (show _ = 29 from rfl) | exact (show _ = 30 from rfl) | exact (show _ = 31 from rfl)) ?_
    | refine Plan.loadC (key := 1000) (q := 0) rfl rfl rfl rfl rfl rfl (obj_reads1 rfl) (by first | exact Try.underlying3 | exact Try.underlying9 | exact Try.underlying27 | exact Try.underlying4 | exact Try.underlying5 | exact Try.underlying33) (by rfl) (by decide) ?_
    | refine Plan.loadC (key := 1000) (q := 1) rfl rfl rfl rfl rfl rfl (obj_reads1 rfl) (by first | exact Try.underlying3 | exact Try.underlying9 | exact Try.underlying27 | exact Try.underlying4 | exact Try.underlying5 | exact Try.underlying33) (by rfl) (by decide) ?_
    | refine Plan.loadC (key := 1000) (q := 2) rfl rfl rfl rfl rfl rfl (obj_reads1 rfl) (by first | exact Try.underlying3 | exact Try.underlying9 | exact Try.underlying27 | exact Try.underlying4 | exact Try.underlying5 | exact Try.underlying33) (by rfl) (by decide) ?_
    | refine Plan.eqlPtr rfl rfl rfl rfl (by kernel_rfl) ?_
    | refine Plan.neqPtr rfl rfl rfl rfl (by kernel_rfl) ?_
    | refine J.seq (J.region mixed hI (by kernel_rfl) ?_)
    | refine J.region mixed hI (by kernel_rfl) ?_
    | refine J.seq (J.seq (J.region mixed hI (by kernel_rfl) ?_))
    | refine J.condF rfl ?_
    | refine J.condT rfl ?_
    | refine J.skip ?_)
          exact Nrm.mid () trivial (by repeat (first | exact Weak.nil | refine Weak.cons rfl (Sub.refl _) ?_))
        · rw [if_neg hfit, if_neg hfit] at hc
          simp only [dStep, if_pos k1, if_neg hfit, Prod.mk.injEq] at hd
          obtain ⟨⟨rfl, rfl⟩, rfl⟩ := hd
          refine Plan.callC (key := 1000) (q := 1) rfl rfl rfl (hc) Try.func36 rfl rfl (by intro _ e; cases e; decide) (by repeat (first | exact Opnds.nil | refine Opnds.cons rfl (by first | exact Sub.refl _ | exact Sub.own | exact Sub.old (fun _ h => h) | exact Sub.oldOwn (fun _ h => h) | exact Sub.nilRow) ?_)) rfl hA rfl ?_
          intro _ _
          repeat (first
    | refine Plan.move rfl rfl rfl rfl ?_
    | refine Plan.assign rfl rfl rfl rfl ?_
    | refine Plan.skip rfl rfl ?_
    | refine Plan.extract rfl rfl rfl rfl rfl ?_
    | refine Plan.pick rfl rfl rfl rfl rfl ?_
    | refine Plan.lenStr rfl rfl rfl rfl Try.underlying9 ?_
    | refine Plan.lenE rfl rfl rfl rfl Try.underlying27 ?_
    | (refine Plan.ints rfl rfl rfl rfl rfl rfl ?_; (first | refine Plan.int (i64u8 _) ?_ | refine Plan.int (i64r (by omega)) ?_ | refine Plan.int (u64r (by omega)) ?_ | refine Plan.int (u8r (by omega)) ?_ | refine Plan.int (u16r (by omega)) ?_ | refine Plan.int (quoN (by omega)) ?_ | refine Plan.int (remN _ _) ?_ | refine Plan.int (u8N _) ?_ | skip))
    | refine Plan.un rfl rfl rfl rfl rfl ?_
    | refine Plan.lenB rfl rfl rfl rfl (by first | exact Sub.refl _ | exact Sub.own | exact Sub.old (fun _ h => h) | exact Sub.oldOwn (fun _ h => h) | exact Sub.nilRow | exact Sub.ownLower hB | exact Sub.nilOwn (fun _ h => Nat.le_trans hB h.size)) Try.underlying27 ?_
    | (refine Plan.convInt rfl rfl rfl rfl (by first | exact Try.underlying2 | exact Try.underlying3 | exact Try.underlying5 | exact Try.underlying21 | exact Try.underlying25 | exact Try.underlying33 | exact Try.underlying53 | exact Try.underlying89) (by first | exact Try.underlying2 | exact Try.underlying3 | exact Try.underlying5 | exact Try.underlying21 | exact Try.underlying25 | exact Try.underlying33 | exact Try.underlying53 | exact Try.underlying89) ?_; (first | refine Plan.int (i64u8 _) ?_ | refine Plan.int (i64r (by omega)) ?_ | refine Plan.int (u64r (by omega)) ?_ | refine Plan.int (u8r (by omega)) ?_ | refine Plan.int (u16r (by omega)) ?_ | refine Plan.int (quoN (by omega)) ?_ | refine Plan.int (remN _ _) ?_ | refine Plan.int (u8N _) ?_ | skip))
    | refine Plan.nilOk rfl rfl rfl rfl ?_
    | refine Plan.fieldC (m := 0) rfl rfl rfl rfl (by first | exact Try.underlying65 | exact Try.underlying67 | exact Try.underlying73) rfl (by kernel_rfl) (by first | exact (show _ = 0 from rfl) | exact (show _ = 1 from rfl) | exact (show _ = 2 from rfl) | exact (show _ = 3 from rfl) | exact (show _ = 4 from rfl) | exact (show _ = 5 from rfl) | exact (show _ = 6 from rfl) | exact (show _ = 7 from rfl) | exact (show _ = 8 from rfl) | exact (show _ = 9 from rfl) | exact (show _ = 10 from rfl) | exact (show _ = 11 from rfl) | exact (show _ = 12 from rfl) | exact (show _ = 13 from rfl) | exact (show _ = 14 from rfl) | exact (show _ = 15 from rfl) | exact (show _ = 16 from rfl) | exact (show _ = 17 from rfl) | exact (show _ = 18 from rfl) | exact (show _ = 19 from rfl) | exact (show _ = 20 from rfl) | exact (show _ = 21 from rfl) | exact (show _ = 22 from rfl) | exact (show _ = 23 from rfl) | exact (show _ = 24 from rfl) | exact (show _ = 25 from rfl) | exact (show _ = 26 from rfl) | exact (show _ = 27 from rfl) | exact (show _ = 28 from rfl) | exact (show _ = 29 from rfl) | exact (show _ = 30 from rfl) | exact (show _ = 31 from rfl)) ?_
    | refine Plan.loadC (key := 1000) (q := 0) rfl rfl rfl rfl rfl rfl (obj_reads1 rfl) (by first | exact Try.underlying3 | exact Try.underlying9 | exact Try.underlying27 | exact Try.underlying4 | exact Try.underlying5 | exact Try.underlying33) (by rfl) (by decide) ?_
    | refine Plan.loadC (key := 1000) (q := 1) rfl rfl rfl rfl rfl rfl (obj_reads1 rfl) (by first | exact Try.underlying3 | exact Try.underlying9 | exact Try.underlying27 | exact Try.underlying4 | exact Try.underlying5 | exact Try.underlying33) (by rfl) (by decide) ?_
    | refine Plan.loadC (key := 1000) (q := 2) rfl rfl rfl rfl rfl rfl (obj_reads1 rfl) (by first | exact Try.underlying3 | exact Try.underlying9 | exact Try.underlying27 | exact Try.underlying4 | exact Try.underlying5 | exact Try.underlying33) (by rfl) (by decide) ?_
    | refine Plan.eqlPtr rfl rfl rfl rfl (by kernel_rfl) ?_
    | refine Plan.neqPtr rfl rfl rfl rfl (by kernel_rfl) ?_
    | refine J.seq (J.region mixed hI (by kernel_rfl) ?_)
    | refine J.region mixed hI (by kernel_rfl) ?_
    | refine J.seq (J.seq (J.region mixed hI (by kernel_rfl) ?_))
    | refine J.condF rfl ?_
    | refine J.condT rfl ?_
    | refine J.skip ?_)
          exact Nrm.mid () trivial (by repeat (first | exact Weak.nil | refine Weak.cons rfl (Sub.refl _) ?_))
      repeat (first
    | refine Plan.move rfl rfl rfl rfl ?_
    | refine Plan.assign rfl rfl rfl rfl ?_
    | refine Plan.skip rfl rfl ?_
    | refine Plan.extract rfl rfl rfl rfl rfl ?_
    | refine Plan.pick rfl rfl rfl rfl rfl ?_
    | refine Plan.lenStr rfl rfl rfl rfl Try.underlying9 ?_
    | refine Plan.lenE rfl rfl rfl rfl Try.underlying27 ?_
    | (refine Plan.ints rfl rfl rfl rfl rfl rfl ?_; (first | refine Plan.int (i64u8 _) ?_ | refine Plan.int (i64r (by omega)) ?_ | refine Plan.int (u64r (by omega)) ?_ | refine Plan.int (u8r (by omega)) ?_ | refine Plan.int (u16r (by omega)) ?_ | refine Plan.int (quoN (by omega)) ?_ | refine Plan.int (remN _ _) ?_ | refine Plan.int (u8N _) ?_ | skip))
    | refine Plan.un rfl rfl rfl rfl rfl ?_
    | refine Plan.lenB rfl rfl rfl rfl (by first | exact Sub.refl _ | exact Sub.own | exact Sub.old (fun _ h => h) | exact Sub.oldOwn (fun _ h => h) | exact Sub.nilRow | exact Sub.ownLower hB | exact Sub.nilOwn (fun _ h => Nat.le_trans hB h.size)) Try.underlying27 ?_
    | (refine Plan.convInt rfl rfl rfl rfl (by first | exact Try.underlying2 | exact Try.underlying3 | exact Try.underlying5 | exact Try.underlying21 | exact Try.underlying25 | exact Try.underlying33 | exact Try.underlying53 | exact Try.underlying89) (by first | exact Try.underlying2 | exact Try.underlying3 | exact Try.underlying5 | exact Try.underlying21 | exact Try.underlying25 | exact Try.underlying33 | exact Try.underlying53 | exact Try.underlying89) ?_; (first | refine Plan.int (i64u8 _) ?_ | refine Plan.int (i64r (by omega)) ?_ | refine Plan.int (u64r (by omega)) ?_ | refine Plan.int (u8r (by omega)) ?_ | refine Plan.int (u16r (by omega)) ?_ | refine Plan.int (quoN (by omega)) ?_ | refine Plan.int (remN _ _) ?_ | refine Plan.int (u8N _) ?_ | skip))
    | refine Plan.nilOk rfl rfl rfl rfl ?_
    | refine Plan.fieldC (m := 0) rfl rfl rfl rfl (by first | exact Try.underlying65 | exact Try.underlying67 | exact Try.underlying73) rfl (by kernel_rfl) (by first | exact (show _ = 0 from rfl) | exact (show _ = 1 from rfl) | exact (show _ = 2 from rfl) | exact (show _ = 3 from rfl) | exact (show _ = 4 from rfl) | exact (show _ = 5 from rfl) | exact (show _ = 6 from rfl) | exact (show _ = 7 from rfl) | exact (show _ = 8 from rfl) | exact (show _ = 9 from rfl) | exact (show _ = 10 from rfl) | exact (show _ = 11 from rfl) | exact (show _ = 12 from rfl) | exact (show _ = 13 from rfl) | exact (show _ = 14 from rfl) | exact (show _ = 15 from rfl) | exact (show _ = 16 from rfl) | exact (show _ = 17 from rfl) | exact (show _ = 18 from rfl) | exact (show _ = 19 from rfl) | exact (show _ = 20 from rfl) | exact (show _ = 21 from rfl) | exact (show _ = 22 from rfl) | exact (show _ = 23 from rfl) | exact (show _ = 24 from rfl) | exact (show _ = 25 from rfl) | exact (show _ = 26 from rfl) | exact (show _ = 27 from rfl) | exact (show _ = 28 from rfl) | exact (show _ = 29 from rfl) | exact (show _ = 30 from rfl) | exact (show _ = 31 from rfl)) ?_
    | refine Plan.loadC (key := 1000) (q := 0) rfl rfl rfl rfl rfl rfl (obj_reads1 rfl) (by first | exact Try.underlying3 | exact Try.underlying9 | exact Try.underlying27 | exact Try.underlying4 | exact Try.underlying5 | exact Try.underlying33) (by rfl) (by decide) ?_
    | refine Plan.loadC (key := 1000) (q := 1) rfl rfl rfl rfl rfl rfl (obj_reads1 rfl) (by first | exact Try.underlying3 | exact Try.underlying9 | exact Try.underlying27 | exact Try.underlying4 | exact Try.underlying5 | exact Try.underlying33) (by rfl) (by decide) ?_
    | refine Plan.loadC (key := 1000) (q := 2) rfl rfl rfl rfl rfl rfl (obj_reads1 rfl) (by first | exact Try.underlying3 | exact Try.underlying9 | exact Try.underlying27 | exact Try.underlying4 | exact Try.underlying5 | exact Try.underlying33) (by rfl) (by decide) ?_
    | refine Plan.eqlPtr rfl rfl rfl rfl (by kernel_rfl) ?_
    | refine Plan.neqPtr rfl rfl rfl rfl (by kernel_rfl) ?_
    | refine J.seq (J.region mixed hI (by kernel_rfl) ?_)
    | refine J.region mixed hI (by kernel_rfl) ?_
    | refine J.seq (J.seq (J.region mixed hI (by kernel_rfl) ?_))
    | refine J.condF rfl ?_
    | refine J.condT rfl ?_
    | refine J.skip ?_)
      refine J.condE rfl (fun k2 => ?_) (fun k2 => ?_)
      · simp only [dStep, if_neg k1, if_pos k2, Prod.mk.injEq] at hd
        obtain ⟨⟨rfl, rfl⟩, rfl⟩ := hd
        repeat (first
    | refine Plan.move rfl rfl rfl rfl ?_
    | refine Plan.assign rfl rfl rfl rfl ?_
    | refine Plan.skip rfl rfl ?_
    | refine Plan.extract rfl rfl rfl rfl rfl ?_
    | refine Plan.pick rfl rfl rfl rfl rfl ?_
    | refine Plan.lenStr rfl rfl rfl rfl Try.underlying9 ?_
    | refine Plan.lenE rfl rfl rfl rfl Try.underlying27 ?_
    | (refine Plan.ints rfl rfl rfl rfl rfl rfl ?_; (first | refine Plan.int (i64u8 _) ?_ | refine Plan.int (i64r (by omega)) ?_ | refine Plan.int (u64r (by omega)) ?_ | refine Plan.int (u8r (by omega)) ?_ | refine Plan.int (u16r (by omega)) ?_ | refine Plan.int (quoN (by omega)) ?_ | refine Plan.int (remN _ _) ?_ | refine Plan.int (u8N _) ?_ | skip))
    | refine Plan.un rfl rfl rfl rfl rfl ?_
    | refine Plan.lenB rfl rfl rfl rfl (by first | exact Sub.refl _ | exact Sub.own | exact Sub.old (fun _ h => h) | exact Sub.oldOwn (fun _ h => h) | exact Sub.nilRow | exact Sub.ownLower hB | exact Sub.nilOwn (fun _ h => Nat.le_trans hB h.size)) Try.underlying27 ?_
    | (refine Plan.convInt rfl rfl rfl rfl (by first | exact Try.underlying2 | exact Try.underlying3 | exact Try.underlying5 | exact Try.underlying21 | exact Try.underlying25 | exact Try.underlying33 | exact Try.underlying53 | exact Try.underlying89) (by first | exact Try.underlying2 | exact Try.underlying3 | exact Try.underlying5 | exact Try.underlying21 | exact Try.underlying25 | exact Try.underlying33 | exact Try.underlying53 | exact Try.underlying89) ?_; (first | refine Plan.int (i64u8 _) ?_ | refine Plan.int (i64r (by omega)) ?_ | refine Plan.int (u64r (by omega)) ?_ | refine Plan.int (u8r (by omega)) ?_ | refine Plan.int (u16r (by omega)) ?_ | refine Plan.int (quoN (by omega)) ?_ | refine Plan.int (remN _ _) ?_ | refine Plan.int (u8N _) ?_ | skip))
    | refine Plan.nilOk rfl rfl rfl rfl ?_
    | refine Plan.fieldC (m := 0) rfl rfl rfl rfl (by first | exact Try.underlying65 | exact Try.underlying67 | exact Try.underlying73) rfl (by kernel_rfl) (by first | exact (show _ = 0 from rfl) | exact (show _ = 1 from rfl) | exact (show _ = 2 from rfl) | exact (show _ = 3 from rfl) | exact (show _ = 4 from rfl) | exact (show _ = 5 from rfl) | exact (show _ = 6 from rfl) | exact (show _ = 7 from rfl) | exact (show _ = 8 from rfl) | exact (show _ = 9 from rfl) | exact (show _ = 10 from rfl) | exact (show _ = 11 from rfl) | exact (show _ = 12 from rfl) | exact (show _ = 13 from rfl) | exact (show _ = 14 from rfl) | exact (show _ = 15 from rfl) | exact (show _ = 16 from rfl) | exact (show _ = 17 from rfl) | exact (show _ = 18 from rfl) | exact (show _ = 19 from rfl) | exact (show _ = 20 from rfl) | exact (show _ = 21 from rfl) | exact (show _ = 22 from rfl) | exact (show _ = 23 from rfl) | exact (show _ = 24 from rfl) | exact (show _ = 25 from rfl) | exact (show _ = 26 from rfl) | exact (show _ = 27 from rfl) | exact (show _ = 28 from rfl) | exact (show _ = 29 from rfl) | exact (show _ = 30 from rfl) | exact (show _ = 31 from rfl)) ?_
    | refine Plan.loadC (key := 1000) (q := 0) rfl rfl rfl rfl rfl rfl (obj_reads1 rfl) (by first | exact Try.underlying3 | exact Try.underlying9 | exact Try.underlying27 | exact Try.underlying4 | exact Try.underlying5 | exact Try.underlying33) (by rfl) (by decide) ?_
    | refine Plan.loadC (key := 1000) (q := 1) rfl rfl rfl rfl rfl rfl (obj_reads1 rfl) (by first | exact Try.underlying3 | exact Try.underlying9 | exact Try.underlying27 | exact Try.underlying4 | exact Try.underlying5 | exact Try.underlying33) (by rfl) (by decide) ?_
    | refine Plan.loadC (key := 1000) (q := 2) rfl rfl rfl rfl rfl rfl (obj_reads1 rfl) (by first | exact Try.underlying3 | exact Try.underlying9 | exact Try.underlying27 | exact Try.underlying4 | exact Try.underlying5 | exact Try.underlying33) (by rfl) (by decide) ?_
    | refine Plan.eqlPtr rfl rfl rfl rfl (by kernel_rfl) ?_
    | refine Plan.neqPtr rfl rfl rfl rfl (by kernel_rfl) ?_
    | refine J.seq (J.region mixed hI (by kernel_rfl) ?_)
    | refine J.region mixed hI (by kernel_rfl) ?_
    | refine J.seq (J.seq (J.region mixed hI (by kernel_rfl) ?_))
    | refine J.condF rfl ?_
    | refine J.condT rfl ?_
    | refine J.skip ?_)
        refine Plan.storeC (key := 1000) (q := 1) rfl rfl rfl rfl rfl rfl (by simp [Value.cells, Value.oneCell']) (by kernel_rfl) rfl hA rfl (obj_pat1 (Nat.le_of_ble_eq_true rfl)) ?_
        exact Nrm.mid () trivial (by repeat (first | exact Weak.nil | refine Weak.cons rfl (Sub.refl _) ?_))
      repeat (first
    | refine Plan.move rfl rfl rfl rfl ?_
    | refine Plan.assign rfl rfl rfl rfl ?_
    | refine Plan.skip rfl rfl ?_
    | refine Plan.extract rfl rfl rfl rfl rfl ?_
    | refine Plan.pick rfl rfl rfl rfl rfl ?_
    | refine Plan.lenStr rfl rfl rfl rfl Try.underlying9 ?_
    | refine Plan.lenE rfl rfl rfl rfl Try.underlying27 ?_
    | (refine Plan.ints rfl rfl rfl rfl rfl rfl ?_; (first | refine Plan.int (i64u8 _) ?_ | refine Plan.int (i64r (by omega)) ?_ | refine Plan.int (u64r (by omega)) ?_ | refine Plan.int (u8r (by omega)) ?_ | refine Plan.int (u16r (by omega)) ?_ | refine Plan.int (quoN (by omega)) ?_ | refine Plan.int (remN _ _) ?_ | refine Plan.int (u8N _) ?_ | skip))
    | refine Plan.un rfl rfl rfl rfl rfl ?_
    | refine Plan.lenB rfl rfl rfl rfl (by first | exact Sub.refl _ | exact Sub.own | exact Sub.old (fun _ h => h) | exact Sub.oldOwn (fun _ h => h) | exact Sub.nilRow | exact Sub.ownLower hB | exact Sub.nilOwn (fun _ h => Nat.le_trans hB h.size)) Try.underlying27 ?_
    | (refine Plan.convInt rfl rfl rfl rfl (by first | exact Try.underlying2 | exact Try.underlying3 | exact Try.underlying5 | exact Try.underlying21 | exact Try.underlying25 | exact Try.underlying33 | exact Try.underlying53 | exact Try.underlying89) (by first | exact Try.underlying2 | exact Try.underlying3 | exact Try.underlying5 | exact Try.underlying21 | exact Try.underlying25 | exact Try.underlying33 | exact Try.underlying53 | exact Try.underlying89) ?_; (first | refine Plan.int (i64u8 _) ?_ | refine Plan.int (i64r (by omega)) ?_ | refine Plan.int (u64r (by omega)) ?_ | refine Plan.int (u8r (by omega)) ?_ | refine Plan.int (u16r (by omega)) ?_ | refine Plan.int (quoN (by omega)) ?_ | refine Plan.int (remN _ _) ?_ | refine Plan.int (u8N _) ?_ | skip))
    | refine Plan.nilOk rfl rfl rfl rfl ?_
    | refine Plan.fieldC (m := 0) rfl rfl rfl rfl (by first | exact Try.underlying65 | exact Try.underlying67 | exact Try.underlying73) rfl (by kernel_rfl) (by first | exact (show _ = 0 from rfl) | exact (show _ = 1 from rfl) | exact (show _ = 2 from rfl) | exact (show _ = 3 from rfl) | exact (show _ = 4 from rfl) | exact (show _ = 5 from rfl) | exact (show _ = 6 from rfl) | exact (show _ = 7 from rfl) | exact (show _ = 8 from rfl) | exact (show _ = 9 from rfl) | exact (show _ = 10 from rfl) | exact (show _ = 11 from rfl) | exact (show _ = 12 from rfl) | exact (show _ = 13 from rfl) | exact (show _ = 14 from rfl) | exact (show _ = 15 from rfl) | exact (show _ = 16 from rfl) | exact (show _ = 17 from rfl) | exact (show _ = 18 from rfl) | exact (show _ = 19 from rfl) | exact (show _ = 20 from rfl) | exact (show _ = 21 from rfl) | exact (show _ = 22 from rfl) | exact (show _ = 23 from rfl) | exact (show _ = 24 from rfl) | exact (show _ = 25 from rfl) | exact (show _ = 26 from rfl) | exact (show _ = 27 from rfl) | exact (show _ = 28 from rfl) | exact (show _ = 29 from rfl) | exact (show _ = 30 from rfl) | exact (show _ = 31 from rfl)) ?_
    | refine Plan.loadC (key := 1000) (q := 0) rfl rfl rfl rfl rfl rfl (obj_reads1 rfl) (by first | exact Try.underlying3 | exact Try.underlying9 | exact Try.underlying27 | exact Try.underlying4 | exact Try.underlying5 | exact Try.underlying33) (by rfl) (by decide) ?_
    | refine Plan.loadC (key := 1000) (q := 1) rfl rfl rfl rfl rfl rfl (obj_reads1 rfl) (by first | exact Try.underlying3 | exact Try.underlying9 | exact Try.underlying27 | exact Try.underlying4 | exact Try.underlying5 | exact Try.underlying33) (by rfl) (by decide) ?_
    | refine Plan.loadC (key := 1000) (q := 2) rfl rfl rfl rfl rfl rfl (obj_reads1 rfl) (by first | exact Try.underlying3 | exact Try.underlying9 | exact Try.underlying27 | exact Try.underlying4 | exact Try.underlying5 | exact Try.underlying33) (by rfl) (by decide) ?_
    | refine Plan.eqlPtr rfl rfl rfl rfl (by kernel_rfl) ?_
    | refine Plan.neqPtr rfl rfl rfl rfl (by kernel_rfl) ?_
    | refine J.seq (J.region mixed hI (by kernel_rfl) ?_)
    | refine J.region mixed hI (by kernel_rfl) ?_
    | refine J.seq (J.seq (J.region mixed hI (by kernel_rfl) ?_))
    | refine J.condF rfl ?_
    | refine J.condT rfl ?_
    | refine J.skip ?_)
      refine J.condE rfl (fun k3 => ?_) (fun k3 => ?_)
      · repeat (first
    | refine Plan.move rfl rfl rfl rfl ?_
    | refine Plan.assign rfl rfl rfl rfl ?_
    | refine Plan.skip rfl rfl ?_
    | refine Plan.extract rfl rfl rfl rfl rfl ?_
    | refine Plan.pick rfl rfl rfl rfl rfl ?_
    | refine Plan.lenStr rfl rfl rfl rfl Try.underlying9 ?_
    | refine Plan.lenE rfl rfl rfl rfl Try.underlying27 ?_
    | (refine Plan.ints rfl rfl rfl rfl rfl rfl ?_; (first | refine Plan.int (i64u8 _) ?_ | refine Plan.int (i64r (by omega)) ?_ | refine Plan.int (u64r (by omega)) ?_ | refine Plan.int (u8r (by omega)) ?_ | refine Plan.int (u16r (by omega)) ?_ | refine Plan.int (quoN (by omega)) ?_ | refine Plan.int (remN _ _) ?_ | refine Plan.int (u8N _) ?_ | skip))
    | refine Plan.un rfl rfl rfl rfl rfl ?_
    | refine Plan.lenB rfl rfl rfl rfl (by first | exact Sub.refl _ | exact Sub.own | exact Sub.old (fun _ h => h) | exact Sub.oldOwn (fun _ h => h) | exact Sub.nilRow | exact Sub.ownLower hB | exact Sub.nilOwn (fun _ h => Nat.le_trans hB h.size)) Try.underlying27 ?_
    | (refine Plan.convInt rfl rfl rfl rfl (by first | exact Try.underlying2 | exact Try.underlying3 | exact Try.underlying5 | exact Try.underlying21 | exact Try.underlying25 | exact Try.underlying33 | exact Try.underlying53 | exact Try.underlying89) (by first | exact Try.underlying2 | exact Try.underlying3 | exact Try.underlying5 | exact Try.underlying21 | exact Try.underlying25 | exact Try.underlying33 | exact Try.underlying53 | exact Try.underlying89) ?_; (first | refine Plan.int (i64u8 _) ?_ | refine Plan.int (i64r (by omega)) ?_ | refine Plan.int (u64r (by omega)) ?_ | refine Plan.int (u8r (by omega)) ?_ | refine Plan.int (u16r (by omega)) ?_ | refine Plan.int (quoN (by omega)) ?_ | refine Plan.int (remN _ _) ?_ | refine Plan.int (u8N _) ?_ | skip))
    | refine Plan.nilOk rfl rfl rfl rfl ?_
    | refine Plan.fieldC (m := 0) rfl rfl rfl rfl (by first | exact Try.underlying65 | exact Try.underlying67 | exact Try.underlying73) rfl (by kernel_rfl) (by first | exact (show _ = 0 from rfl) | exact (show _ = 1 from rfl) | exact (show _ = 2 from rfl) | exact (show _ = 3 from rfl) | exact (show _ = 4 from rfl) | exact (show _ = 5 from rfl) | exact (show _ = 6 from rfl) | exact (show _ = 7 from rfl) | exact (show _ = 8 from rfl) | exact (show _ = 9 from rfl) | exact (show _ = 10 from rfl) | exact (show _ = 11 from rfl) | exact (show _ = 12 from rfl) | exact (show _ = 13 from rfl) | exact (show _ = 14 from rfl) | exact (show _ = 15 from rfl) | exact (show _ = 16 from rfl) | exact (show _ = 17 from rfl) | exact (show _ = 18 from rfl) | exact (show _ = 19 from rfl) | exact (show _ = 20 from rfl) | exact (show _ = 21 from rfl) | exact (show _ = 22 from rfl) | exact (show _ = 23 from rfl) | exact (show _ = 24 from rfl) | exact (show _ = 25 from rfl) | exact (show _ = 26 from rfl) | exact (show _ = 27 from rfl) | exact (show _ = 28 from rfl) | exact (show _ = 29 from rfl) | exact (show _ = 30 from rfl) | exact (show _ = 31 from rfl)) ?_
    | refine Plan.loadC (key := 1000) (q := 0) rfl rfl rfl rfl rfl rfl (obj_reads1 rfl) (by first | exact Try.underlying3 | exact Try.underlying9 | exact Try.underlying27 | exact Try.underlying4 | exact Try.underlying5 | exact Try.underlying33) (by rfl) (by decide) ?_
    | refine Plan.loadC (key := 1000) (q := 1) rfl rfl rfl rfl rfl rfl (obj_reads1 rfl) (by first | exact Try.underlying3 | exact Try.underlying9 | exact Try.underlying27 | exact Try.underlying4 | exact Try.underlying5 | exact Try.underlying33) (by rfl) (by decide) ?_
    | refine Plan.loadC (key := 1000) (q := 2) rfl rfl rfl rfl rfl rfl (obj_reads1 rfl) (by first | exact Try.underlying3 | exact Try.underlying9 | exact Try.underlying27 | exact Try.underlying4 | exact Try.underlying5 | exact Try.underlying33) (by rfl) (by decide) ?_
    | refine Plan.eqlPtr rfl rfl rfl rfl (by kernel_rfl) ?_
    | refine Plan.neqPtr rfl rfl rfl rfl (by kernel_rfl) ?_
    | refine J.seq (J.region mixed hI (by kernel_rfl) ?_)
    | refine J.region mixed hI (by kernel_rfl) ?_
    | refine J.seq (J.seq (J.region mixed hI (by kernel_rfl) ?_))
    | refine J.condF rfl ?_
    | refine J.condT rfl ?_
    | refine J.skip ?_)
        have hc := ref_Replace γ l f R o.b
        by_cases hfit : o.b.length ≤ R
        · rw [if_pos hfit, if_pos hfit] at hc
          simp only [dStep, if_neg k1, if_neg k2, if_pos k3, if_pos hfit, Prod.mk.injEq] at hd
          obtain ⟨⟨rfl, rfl⟩, rfl⟩ := hd
          refine Plan.callC (key := 1000) (q := 1) rfl rfl rfl (hc) Try.func37 rfl rfl (by intro _ e; cases e; decide) (by repeat (first | exact Opnds.nil | refine Opnds.cons rfl (by first | exact Sub.refl _ | exact Sub.own | exact Sub.old (fun _ h => h) | exact Sub.oldOwn (fun _ h => h) | exact Sub.nilRow) ?_)) rfl hA rfl ?_
          intro _ _
          repeat (first
    | refine Plan.move rfl rfl rfl rfl ?_
    | refine Plan.assign rfl rfl rfl rfl ?_
    | refine Plan.skip rfl rfl ?_
    | refine Plan.extract rfl rfl rfl rfl rfl ?_
    | refine Plan.pick rfl rfl rfl rfl rfl ?_
    | refine Plan.lenStr rfl rfl rfl rfl Try.underlying9 ?_
    | refine Plan.lenE rfl rfl rfl rfl Try.underlying27 ?_
    | (refine Plan.ints rfl rfl rfl rfl rfl rfl ?_; (first | refine Plan.int (i64u8 _) ?_ | refine Plan.int (i64r (by omega)) ?_ | refine Plan.int (u64r (by omega)) ?_ | refine Plan.int (u8r (by omega)) ?_ | refine Plan.int (u16r (by omega)) ?_ | refine Plan.int (quoN (by omega)) ?_ | refine Plan.int (remN _ _) ?_ | refine Plan.int (u8N _) ?_ | skip))
    | refine Plan.un rfl rfl rfl rfl rfl ?_
    | refine Plan.lenB rfl rfl rfl rfl (by first | exact Sub.refl _ | exact Sub.own | exact Sub.old (fun _ h => h) | exact Sub.oldOwn (fun _ h => h) | exact Sub.nilRow | exact Sub.ownLower hB | exact Sub.nilOwn (fun _ h => Nat.le_trans hB h.size)) Try.underlying27 ?_
    | (refine Plan.convInt rfl rfl rfl rfl (by first | exact Try.underlying2 | exact Try.underlying3 | exact Try.underlying5 | exact Try.underlying21 | exact Try.underlying25 | exact Try.underlying33 | exact Try.underlying53 | exact Try.underlying89) (by first | exact Try.underlying2 | exact Try.underlying3 | exact Try.underlying5 | exact Try.underlying21 | exact Try.underlying25 | exact Try.underlying33 | exact Try.underlying53 | exact Try.underlying89) ?_; (first | refine Plan.int (i64u8 _) ?_ | refine Plan.int (i64r (by omega)) ?_ | refine Plan.int (u64r (by omega)) ?_ | refine Plan.int (u8r (by omega)) ?_ | refine Plan.int (u16r (by omega)) ?_ | refine Plan.int (quoN (by omega)) ?_ | refine Plan.int (remN _ _) ?_ | refine Plan.int (u8N _) ?_ | skip))
    | refine Plan.nilOk rfl rfl rfl rfl ?_
    | refine Plan.fieldC (m := 0) rfl rfl rfl rfl (by first | exact Try.underlying65 | exact Try.underlying67 | exact Try.underlying73) rfl (by kernel_rfl) (by first | exact (show _ = 0 from rfl) | exact (show _ = 1 from rfl) | exact (show _ = 2 from rfl) | exact (show _ = 3 from rfl) | exact (show _ = 4 from rfl) | exact (show _ = 5 from rfl) | exact (show _ = 6 from rfl) | exact (show _ = 7 from rfl) | exact (show _ = 8 from rfl) | exact (show _ = 9 from rfl) | exact (show _ = 10 from rfl) | exact (show _ = 11 from rfl) | exact (show _ = 12 from rfl) | exact (show _ = 13 from rfl) | exact (show _ = 14 from rfl) | exact (show _ = 15 from rfl) | exact (show _ = 16 from rfl) | exact (show _ = 17 from rfl) | exact (show _ = 18 from rfl) | exact (show _ = 19 from rfl) | exact (show _ = 20 from rfl) | exact (show _ = 21 from rfl) | exact (show _ = 22 from rfl) | exact (show _ = 23 from rfl) | exact (show _ = 24 from rfl) | exact (show _ = 25 from rfl) | exact (show _ = 26 from rfl) | exact (show _ = 27 from rfl) | exact (show _ = 28 from rfl) | exact (show _ = 29 from rfl) | exact (show _ = 30 from rfl) | exact (show _ = 31 from rfl)) ?_
    | refine Plan.loadC (key := 1000) (q := 0) rfl rfl rfl rfl rfl rfl (obj_reads1 rfl) (by first | exact Try.underlying3 | exact Try.underlying9 | exact Try.underlying27 | exact Try.underlying4 | exact Try.underlying5 | exact Try.underlying33) (by rfl) (by decide) ?_
    | refine Plan.loadC (key := 1000) (q := 1) rfl rfl rfl rfl rfl rfl (obj_reads1 rfl) (by first | exact Try.underlying3 | exact Try.underlying9 | exact Try.underlying27 | exact Try.underlying4 | exact Try.underlying5 | exact Try.underlying33) (by rfl) (by decide) ?_
    | refine Plan.loadC (key := 1000) (q := 2) rfl rfl rfl rfl rfl rfl (obj_reads1 rfl) (by first | exact Try.underlying3 | exact Try.underlying9 | exact Try.underlying27 | exact Try.underlying4 | exact Try.underlying5 | exact Try.underlying33) (by rfl) (by decide) ?_
    | refine Plan.eqlPtr rfl rfl rfl rfl (by kernel_rfl) ?_
    | refine Plan.neqPtr rfl rfl rfl rfl (by kernel_rfl) ?_
    | refine J.seq (J.region mixed hI (by kernel_rfl) ?_)
    | refine J.region mixed hI (by kernel_rfl) ?_
    | refine J.seq (J.seq (J.region mixed hI (by kernel_rfl) ?_))
    | refine J.condF rfl ?_
    | refine J.condT rfl ?_
    | refine J.skip ?_)
          exact Nrm.mid () trivial (by repeat (first | exact Weak.nil | refine Weak.cons rfl (Sub.refl _) ?_))
        · rw [if_neg hfit, if_neg hfit] at hc
          simp only [dStep, if_neg k1, if_neg k2, if_pos k3, if_neg hfit, Prod.mk.injEq] at hd
          obtain ⟨⟨rfl, rfl⟩, rfl⟩ := hd
          refine Plan.callC (key := 1000) (q := 1) rfl rfl rfl (hc) Try.func37 rfl rfl (by intro _ e; cases e; decide) (by repeat (first | exact Opnds.nil | refine Opnds.cons rfl (by first | exact Sub.refl _ | exact Sub.own | exact Sub.old (fun _ h => h) | exact Sub.oldOwn (fun _ h => h) | exact Sub.nilRow) ?_)) rfl hA rfl ?_
          intro _ _
          repeat (first
    | refine Plan.move rfl rfl rfl rfl ?_
    | refine Plan.assign rfl rfl rfl rfl ?_
    | refine Plan.skip rfl rfl ?_
    | refine Plan.extract rfl rfl rfl rfl rfl ?_
    | refine Plan.pick rfl rfl rfl rfl rfl ?_
    | refine Plan.lenStr rfl rfl rfl rfl Try.underlying9 ?_
    | refine Plan.lenE rfl rfl rfl rfl Try.underlying27 ?_
    | (refine Plan.ints rfl rfl rfl rfl rfl rfl ?_; (first | refine Plan.int (i64u8 _) ?_ | refine Plan.int (i64r (by omega)) ?_ | refine Plan.int (u64r (by omega)) ?_ | refine Plan.int (u8r (by omega)) ?_ | refine Plan.int (u16r (by omega)) ?_ | refine Plan.int (quoN (by omega)) ?_ | refine Plan.int (remN _ _) ?_ | refine Plan.int (u8N _) ?_ | skip))
    | refine Plan.un rfl rfl rfl rfl rfl ?_
    | refine Plan.lenB rfl rfl rfl rfl (by first | exact Sub.refl _ | exact Sub.own | exact Sub.old (fun _ h => h) | exact Sub.oldOwn (fun _ h => h) | exact Sub.nilRow | exact Sub.ownLower hB | exact Sub.nilOwn (fun _ h => Nat.le_trans hB h.size)) Try.underlying27 ?_
    | (refine Plan.convInt rfl rfl rfl rfl (by first | exact Try.underlying2 | exact Try.underlying3 | exact Try.underlying5 | exact Try.underlying21 | exact Try.underlying25 | exact Try.underlying33 | exact Try.underlying53 | exact Try.underlying89) (by first | exact Try.underlying2 | exact Try.underlying3 | exact Try.underlying5 | exact Try.underlying21 | exact Try.underlying25 | exact Try.underlying33 | exact Try.underlying53 | exact Try.underlying89) ?_; (first | refine Plan.int (i64u8 _) ?_ | refine Plan.int (i64r (by omega)) ?_ | refine Plan.int (u64r (by omega)) ?_ | refine Plan.int (u8r (by omega)) ?_ | refine Plan.int (u16r (by omega)) ?_ | refine Plan.int (quoN (by omega)) ?_ | refine Plan.int (remN _ _) ?_ | refine Plan.int (u8N _) ?_ | skip))
    | refine Plan.nilOk rfl rfl rfl rfl ?_
    | refine Plan.fieldC (m := 0) rfl rfl rfl rfl (by first | exact Try.underlying65 | exact Try.underlying67 | exact Try.underlying73) rfl (by kernel_rfl) (by first | exact (show _ = 0 from rfl) | exact (show _ = 1 from rfl) | exact (show _ = 2 from rfl) | exact (show _ = 3 from rfl) | exact (show _ = 4 from rfl) | exact (show _ = 5 from rfl) | exact (show _ = 6 from rfl) | exact (show _ = 7 from rfl) | exact (show _ = 8 from rfl) | exact (show _ = 9 from rfl) | exact (show _ = 10 from rfl) | exact (show _ = 11 from rfl) | exact (show _ = 12 from rfl) | exact (show _ = 13 from rfl) | exact (show _ = 14 from rfl) | exact (show _ = 15 from rfl) | exact (show _ = 16 from rfl) | exact (show _ = 17 from rfl) | exact (show _ = 18 from rfl) | exact (show _ = 19 from rfl) | exact (show _ = 20 from rfl) | exact (show _ = 21 from rfl) | exact (show _ = 22 from rfl) | exact (show _ = 23 from rfl) | exact (show _ = 24 from rfl) | exact (show _ = 25 from rfl) | exact (show _ = 26 from rfl) | exact (show _ = 27 from rfl) | exact (show _ = 28 from rfl) | exact (show _ = 29 from rfl) | exact (show _ = 30 from rfl) | exact (show _ = 31 from rfl)) ?_
    | refine Plan.loadC (key := 1000) (q := 0) rfl rfl rfl rfl rfl rfl (obj_reads1 rfl) (by first | exact Try.underlying3 | exact Try.underlying9 | exact Try.underlying27 | exact Try.underlying4 | exact Try.underlying5 | exact Try.underlying33) (by rfl) (by decide) ?_
    | refine Plan.loadC (key := 1000) (q := 1) rfl rfl rfl rfl rfl rfl (obj_reads1 rfl) (by first | exact Try.underlying3 | exact Try.underlying9 | exact Try.underlying27 | exact Try.underlying4 | exact Try.underlying5 | exact Try.underlying33) (by rfl) (by decide) ?_
    | refine Plan.loadC (key := 1000) (q := 2) rfl rfl rfl rfl rfl rfl (obj_reads1 rfl) (by first | exact Try.underlying3 | exact Try.underlying9 | exact Try.underlying27 | exact Try.underlying4 | exact Try.underlying5 | exact Try.underlying33) (by rfl) (by decide) ?_
    | refine Plan.eqlPtr rfl rfl rfl rfl (by kernel_rfl) ?_
    | refine Plan.neqPtr rfl rfl rfl rfl (by kernel_rfl) ?_
    | refine J.seq (J.region mixed hI (by kernel_rfl) ?_)
    | refine J.region mixed hI (by kernel_rfl) ?_
    | refine J.seq (J.seq (J.region mixed hI (by kernel_rfl) ?_))
    | refine J.condF rfl ?_
    | refine J.condT rfl ?_
    | refine J.skip ?_)
          exact Nrm.mid () trivial (by repeat (first | exact Weak.nil | refine Weak.cons rfl (Sub.refl _) ?_))
      repeat (first
    | refine Plan.move rfl rfl rfl rfl ?_
    | refine Plan.assign rfl rfl rfl rfl ?_
    | refine Plan.skip rfl rfl ?_
    | refine Plan.extract rfl rfl rfl rfl rfl ?_
    | refine Plan.pick rfl rfl rfl rfl rfl ?_
    | refine Plan.lenStr rfl rfl rfl rfl Try.underlying9 ?_
    | refine Plan.lenE rfl rfl rfl rfl Try.underlying27 ?_
    | (refine Plan.ints rfl rfl rfl rfl rfl rfl ?_; (first | refine Plan.int (i64u8 _) ?_ | refine Plan.int (i64r (by omega)) ?_ | refine Plan.int (u64r (by omega)) ?_ | refine Plan.int (u8r (by omega)) ?_ | refine Plan.int (u16r (by omega)) ?_ | refine Plan.int (quoN (by omega)) ?_ | refine Plan.int (remN _ _) ?_ | refine Plan.int (u8N _) ?_ | skip))
    | refine Plan.un rfl rfl rfl rfl rfl ?_
    | refine Plan.lenB rfl rfl rfl rfl (by first | exact Sub.refl _ | exact Sub.own | exact Sub.old (fun _ h => h) | exact Sub.oldOwn (fun _ h => h) | exact Sub.nilRow | exact Sub.ownLower hB | exact Sub.nilOwn (fun _ h => Nat.le_trans hB h.size)) Try.underlying27 ?_
    | (refine Plan.convInt rfl rfl rfl rfl (by first | exact Try.underlying2 | exact Try.underlying3 | exact Try.underlying5 | exact Try.underlying21 | exact Try.underlying25 | exact Try.underlying33 | exact Try.underlying53 | exact Try.underlying89) (by first | exact Try.underlying2 | exact Try.underlying3 | exact Try.underlying5 | exact Try.underlying21 | exact Try.underlying25 | exact Try.underlying33 | exact Try.underlying53 | exact Try.underlying89) ?_; (first | refine Plan.int (i64u8 _) ?_ | refine Plan.int (i64r (by omega)) ?_ | refine Plan.int (u64r (by omega)) ?_ | refine Plan.int (u8r (by omega)) ?_ | refine Plan.int (u16r (by omega)) ?_ | refine Plan.int (quoN (by omega)) ?_ | refine Plan.int (remN _ _) ?_ | refine Plan.int (u8N _) ?_ | skip))
    | refine Plan.nilOk rfl rfl rfl rfl ?_
    | refine Plan.fieldC (m := 0) rfl rfl rfl rfl (by first | exact Try.underlying65 | exact Try.underlying67 | exact Try.underlying73) rfl (by kernel_rfl) (by first | exact (show _ = 0 from rfl) | exact (show _ = 1 from rfl) | exact (show _ = 2 from rfl) | exact (show _ = 3 from rfl) | exact (show _ = 4 from rfl) | exact (show _ = 5 from rfl) | exact (show _ = 6 from rfl) | exact (show _ = 7 from rfl) | exact (show _ = 8 from rfl) | exact (show _ = 9 from rfl) | exact (show _ = 10 from rfl) | exact (show _ = 11 from rfl) | exact (show _ = 12 from rfl) | exact (show _ = 13 from rfl) | exact (show _ = 14 from rfl) | exact (show _ = 15 from rfl) | exact (show _ = 16 from rfl) | exact (show _ = 17 from rfl) | exact (show _ = 18 from rfl) | exact (show _ = 19 from rfl) | exact (show _ = 20 from rfl) | exact (show _ = 21 from rfl) | exact (show _ = 22 from rfl) | exact (show _ = 23 from rfl) | exact (show _ = 24 from rfl) | exact (show _ = 25 from rfl) | exact (show _ = 26 from rfl) | exact (show _ = 27 from rfl) | exact (show _ = 28 from rfl) | exact (show _ = 29 from rfl) | exact (show _ = 30 from rfl) | exact (show _ = 31 from rfl)) ?_
    | refine Plan.loadC (key := 1000) (q := 0) rfl rfl rfl rfl rfl rfl (obj_reads1 rfl) (by first | exact Try.underlying3 | exact Try.underlying9 | exact Try.underlying27 | exact Try.underlying4 | exact Try.underlying5 | exact Try.underlying33) (by rfl) (by decide) ?_
    | refine Plan.loadC (key := 1000) (q := 1) rfl rfl rfl rfl rfl rfl (obj_reads1 rfl) (by first | exact Try.underlying3 | exact Try.underlying9 | exact Try.underlying27 | exact Try.underlying4 | exact Try.underlying5 | exact Try.underlying33) (by rfl) (by decide) ?_
    | refine Plan.loadC (key := 1000) (q := 2) rfl rfl rfl rfl rfl rfl (obj_reads1 rfl) (by first | exact Try.underlying3 | exact Try.underlying9 | exact Try.underlying27 | exact Try.underlying4 | exact Try.underlying5 | exact Try.underlying33) (by rfl) (by decide) ?_
    | refine Plan.eqlPtr rfl rfl rfl rfl (by kernel_rfl) ?_
    | refine Plan.neqPtr rfl rfl rfl rfl (by kernel_rfl) ?_
    | refine J.seq (J.region mixed hI (by kernel_rfl) ?_)
    | refine J.region mixed hI (by kernel_rfl) ?_
    | refine J.seq (J.seq (J.region mixed hI (by kernel_rfl) ?_))
    | refine J.condF rfl ?_
    | refine J.condT rfl ?_
    | refine J.skip ?_)
      refine J.condE rfl (fun k4 => ?_) (fun k4 => ?_)
      · repeat (first
    | refine Plan.move rfl rfl rfl rfl ?_
    | refine Plan.assign rfl rfl rfl rfl ?_
    | refine Plan.skip rfl rfl ?_
    | refine Plan.extract rfl rfl rfl rfl rfl ?_
    | refine Plan.pick rfl rfl rfl rfl rfl ?_
    | refine Plan.lenStr rfl rfl rfl rfl Try.underlying9 ?_
    | refine Plan.lenE rfl rfl rfl rfl Try.underlying27 ?_
    | (refine Plan.ints rfl rfl rfl rfl rfl rfl ?_; (first | refine Plan.int (i64u8 _) ?_ | refine Plan.int (i64r (by omega)) ?_ | refine Plan.int (u64r (by omega)) ?_ | refine Plan.int (u8r (by omega)) ?_ | refine Plan.int (u16r (by omega)) ?_ | refine Plan.int (quoN (by omega)) ?_ | refine Plan.int (remN _ _) ?_ | refine Plan.int (u8N _) ?_ | skip))
    | refine Plan.un rfl rfl rfl rfl rfl ?_
    | refine Plan.lenB rfl rfl rfl rfl (by first | exact Sub.refl _ | exact Sub.own | exact Sub.old (fun _ h => h) | exact Sub.oldOwn (fun _ h => h) | exact Sub.nilRow | exact Sub.ownLower hB | exact Sub.nilOwn (fun _ h => Nat.le_trans hB h.size)) Try.underlying27 ?_
    | (refine Plan.convInt rfl rfl rfl rfl (by first | exact Try.underlying2 | exact Try.underlying3 | exact Try.underlying5 | exact Try.underlying21 | exact Try.underlying25 | exact Try.underlying33 | exact Try.underlying53 | exact Try.underlying89) (by first | exact Try.underlying2 | exact Try.underlying3 | exact Try.underlying5 | exact Try.underlying21 | exact Try.underlying25 | exact Try.underlying33 | exact Try.underlying53 | exact Try.underlying89) ?_; (first | refine Plan.int (i64u8 _) ?_ | refine Plan.int (i64r (by omega)) ?_ | refine Plan.int (u64r (by omega)) ?_ | refine Plan.int (u8r (by omega)) ?_ | refine Plan.int (u16r (by omega)) ?_ | refine Plan.int (quoN (by omega)) ?_ | refine Plan.int (remN _ _) ?_ | refine Plan.int (u8N _) ?_ | skip))
    | refine Plan.nilOk rfl rfl rfl rfl ?_
    | refine Plan.fieldC (m := 0) rfl rfl rfl rfl (by first | exact Try.underlying65 | exact Try.underlying67 | exact Try.underlying73) rfl (by kernel_rfl) (by first | exact (show _ = 0 from rfl) | exact (show _ = 1 from rfl) | exact (show _ = 2 from rfl) | exact (show _ = 3 from rfl) | exact (show _ = 4 from rfl) | exact (show _ = 5 from rfl) | exact (show _ = 6 from rfl) | exact (show _ = 7 from rfl) | exact (show _ = 8 from rfl) | exact (show _ = 9 from rfl) | exact (show _ = 10 from rfl) | exact (show _ = 11 from rfl) | exact (show _ = 12 from rfl) | exact (show _ = 13 from rfl) | exact (show _ = 14 from rfl) | exact (show _ = 15 from rfl) | exact (show _ = 16 from rfl) | exact (show _ = 17 from rfl) | exact (show _ = 18 from rfl) | exact (show _ = 19 from rfl) | exact (show _ = 20 from rfl) | exact (show _ = 21 from rfl) | exact (show _ = 22 from rfl) | exact (show _ = 23 from rfl) | exact (show _ = 24 from rfl) | exact (show _ = 25 from rfl) | exact (show _ = 26 from rfl) | exact (show _ = 27 from rfl) | exact (show _ = 28 from rfl) | exact (show _ = 29 from rfl) | exact (show _ = 30 from rfl) | exact (show _ = 31 from rfl)) ?_
    | refine Plan.loadC (key := 1000) (q := 0) rfl rfl rfl rfl rfl rfl (obj_reads1 rfl) (by first | exact Try.underlying3 | exact Try.underlying9 | exact Try.underlying27 | exact Try.underlying4 | exact Try.underlying5 | exact Try.underlying33) (by rfl) (by decide) ?_
    | refine Plan.loadC (key := 1000) (q := 1) rfl rfl rfl rfl rfl rfl (obj_reads1 rfl) (by first | exact Try.underlying3 | exact Try.underlying9 | exact Try.underlying27 | exact Try.underlying4 | exact Try.underlying5 | exact Try.underlying33) (by rfl) (by decide) ?_
    | refine Plan.loadC (key := 1000) (q := 2) rfl rfl rfl rfl rfl rfl (obj_reads1 rfl) (by first | exact Try.underlying3 | exact Try.underlying9 | exact Try.underlying27 | exact Try.underlying4 | exact Try.underlying5 | exact Try.underlying33) (by rfl) (by decide) ?_
    | refine Plan.eqlPtr rfl rfl rfl rfl (by kernel_rfl) ?_
    | refine Plan.neqPtr rfl rfl rfl rfl (by kernel_rfl) ?_
    | refine J.seq (J.region mixed hI (by kernel_rfl) ?_)
    | refine J.region mixed hI (by kernel_rfl) ?_
    | refine J.seq (J.seq (J.region mixed hI (by kernel_rfl) ?_))
    | refine J.condF rfl ?_
    | refine J.condT rfl ?_
    | refine J.skip ?_)
        have hc := ref_Cut γ l f R o.n
        by_cases hfit : 0 ≤ o.n ∧ o.n ≤ l.length
        · rw [if_pos hfit, if_pos hfit] at hc
          simp only [dStep, if_neg k1, if_neg k2, if_neg k3, if_pos k4, if_pos hfit, Prod.mk.injEq] at hd
          obtain ⟨⟨rfl, rfl⟩, rfl⟩ := hd
          refine Plan.callC (key := 1000) (q := 1) rfl rfl rfl (hc) Try.func38 rfl rfl (by intro _ e; cases e; decide) (by repeat (first | exact Opnds.nil | refine Opnds.cons rfl (by first | exact Sub.refl _ | exact Sub.own | exact Sub.old (fun _ h => h) | exact Sub.oldOwn (fun _ h => h) | exact Sub.nilRow) ?_)) rfl hA rfl ?_
          intro _ _
          repeat (first
    | refine Plan.move rfl rfl rfl rfl ?_
    | refine Plan.assign rfl rfl rfl rfl ?_
    | refine Plan.skip rfl rfl ?_
    | refine Plan.extract rfl rfl rfl rfl rfl ?_
    | refine Plan.pick rfl rfl rfl rfl rfl ?_
    | refine Plan.lenStr rfl rfl rfl rfl Try.underlying9 ?_
    | refine Plan.lenE rfl rfl rfl rfl Try.underlying27 ?_
    | (refine Plan.ints rfl rfl rfl rfl rfl rfl ?_; (first | refine Plan.int (i64u8 _) ?_ | refine Plan.int (i64r (by omega)) ?_ | refine Plan.int (u64r (by omega)) ?_ | refine Plan.int (u8r (by omega)) ?_ | refine Plan.int (u16r (by omega)) ?_ | refine Plan.int (quoN (by omega)) ?_ | refine Plan.int (remN _ _) ?_ | refine Plan.int (u8N _) ?_ | skip))
    | refine Plan.un rfl rfl rfl rfl rfl ?_
    | refine Plan.lenB rfl rfl rfl rfl (by first | exact Sub.refl _ | exact Sub.own | exact Sub.old (fun _ h => h) | exact Sub.oldOwn (fun _ h => h) | exact Sub.nilRow | exact Sub.ownLower hB | exact Sub.nilOwn (fun _ h => Nat.le_trans hB h.size)) Try.underlying27 ?_
    | (refine Plan.convInt rfl rfl rfl rfl (by first | exact Try.underlying2 | exact Try.underlying3 | exact Try.underlying5 | exact Try.underlying21 | exact Try.underlying25 | exact Try.underlying33 | exact Try.underlying53 | exact Try.underlying89) (by first | exact Try.underlying2 | exact Try.underlying3 | exact Try.underlying5 | exact Try.underlying21 | exact Try.underlying25 | exact Try.underlying33 | exact Try.underlying53 | exact Try.underlying89) ?_; (first | refine Plan.int (i64u8 _) ?_ | refine Plan.int (i64r (by omega)) ?_ | refine Plan.int (u64r (by omega)) ?_ | refine Plan.int (u8r (by omega)) ?_ | refine Plan.int (u16r (by omega)) ?_ | refine Plan.int (quoN (by omega)) ?_ | refine Plan.int (remN _ _) ?_ | refine Plan.int (u8N _) ?_ | skip))
    | refine Plan.nilOk rfl rfl rfl rfl ?_
    | refine Plan.fieldC (m := 0) rfl rfl rfl rfl (by first | exact Try.underlying65 | exact Try.underlying67 | exact Try.underlying73) rfl (by kernel_rfl) (by first | exact (show _ = 0 from rfl) | exact (show _ = 1 from rfl) | exact (show _ = 2 from rfl) | exact (show _ = 3 from rfl) | exact (show _ = 4 from rfl) | exact (show _ = 5 from rfl) | exact (show _ = 6 from rfl) | exact (show _ = 7 from rfl) | exact (show _ = 8 from rfl) | exact (show _ = 9 from rfl) | exact (show _ = 10 from rfl) | exact (show _ = 11 from rfl) | exact (show _ = 12 from rfl) | exact (show _ = 13 from rfl) | exact (show _ = 14 from rfl) | exact (show _ = 15 from rfl) | exact (show _ = 16 from rfl) | exact (show _ = 17 from rfl) | exact (show _ = 18 from rfl) | exact (show _ = 19 from rfl) | exact (show _ = 20 from rfl) | exact (show _ = 21 from rfl) | exact (show _ = 22 from rfl) | exact (show _ = 23 from rfl) | exact (show _ = 24 from rfl) | exact (show _ = 25 from rfl) | exact (show _ = 26 from rfl) | exact (show _ = 27 from rfl) | exact (show _ = 28 from rfl) | exact (show _ = 29 from rfl) | exact (show _ = 30 from rfl) | exact (show _ = 31 from rfl)) ?_
    | refine Plan.loadC (key := 1000) (q := 0) rfl rfl rfl rfl rfl rfl (obj_reads1 rfl) (by first | exact Try.underlying3 | exact Try.underlying9 | exact Try.underlying27 | exact Try.underlying4 | exact Try.underlying5 | exact Try.underlying33) (by rfl) (by decide) ?_
    | refine Plan.loadC (key := 1000) (q := 1) rfl rfl rfl rfl rfl rfl (obj_reads1 rfl) (by first | exact Try.underlying3 | exact Try.underlying9 | exact Try.underlying27 | exact Try.underlying4 | exact Try.underlying5 | exact Try.underlying33) (by rfl) (by decide) ?_
    | refine Plan.loadC (key := 1000) (q := 2) rfl rfl rfl rfl rfl rfl (obj_reads1 rfl) (by first | exact Try.underlying3 | exact Try.underlying9 | exact Try.underlying27 | exact Try.underlying4 | exact Try.underlying5 | exact Try.underlying33) (by rfl) (by decide) ?_
    | refine Plan.eqlPtr rfl rfl rfl rfl (by kernel_rfl) ?_
    | refine Plan.neqPtr rfl rfl rfl rfl (by kernel_rfl) ?_
    | refine J.seq (J.region mixed hI (by kernel_rfl) ?_)
    | refine J.region mixed hI (by kernel_rfl) ?_
    | refine J.seq (J.seq (J.region mixed hI (by kernel_rfl) ?_))
    | refine J.condF rfl ?_
    | refine J.condT rfl ?_
    | refine J.skip ?_)
          exact Nrm.mid () trivial (by repeat (first | exact Weak.nil | refine Weak.cons rfl (Sub.refl _) ?_))
        · rw [if_neg hfit, if_neg hfit] at hc
          simp only [dStep, if_neg k1, if_neg k2, if_neg k3, if_pos k4, if_neg hfit, Prod.mk.injEq] at hd
          obtain ⟨⟨rfl, rfl⟩, rfl⟩ := hd
          refine Plan.callC (key := 1000) (q := 1) rfl rfl rfl (hc) Try.func38 rfl rfl (by intro _ e; cases e; decide) (by repeat (first | exact Opnds.nil | refine Opnds.cons rfl (by first | exact Sub.refl _ | exact Sub.own | exact Sub.old (fun _ h => h) | exact Sub.oldOwn (fun _ h => h) | exact Sub.nilRow) ?_)) rfl hA rfl ?_
          intro _ _
          repeat (first
    | refine Plan.move rfl rfl rfl rfl ?_
    | refine Plan.assign rfl rfl rfl rfl ?_
    | refine Plan.skip rfl rfl ?_
    | refine Plan.extract rfl rfl rfl rfl rfl ?_
    | refine Plan.pick rfl rfl rfl rfl rfl ?_
    | refine Plan.lenStr rfl rfl rfl rfl Try.underlying9 ?_
    | refine Plan.lenE rfl rfl rfl rfl Try.underlying27 ?_
    | (refine Plan.ints rfl rfl rfl rfl rfl rfl ?_; (first | refine Plan.int (i64u8 _) ?_ | refine Plan.int (i64r (by omega)) ?_ | refine Plan.int (u64r (by omega)) ?_ | refine Plan.int (u8r (by omega)) ?_ | refine Plan.int (u16r (by omega)) ?_ | refine Plan.int (quoN (by omega)) ?_ | refine Plan.int (remN _ _) ?_ | refine Plan.int (u8N _) ?_ | skip))
    | refine Plan.un rfl rfl rfl rfl rfl ?_
    | refine Plan.lenB rfl rfl rfl rfl (by first | exact Sub.refl _ | exact Sub.own | exact Sub.old (fun _ h => h) | exact Sub.oldOwn (fun _ h => h) | exact Sub.nilRow | exact Sub.ownLower hB | exact Sub.nilOwn (fun _ h => Nat.le_trans hB h.size)) Try.underlying27 ?_
    | (refine Plan.convInt rfl rfl rfl rfl (by first | exact Try.underlying2 | exact Try.underlying3 | exact Try.underlying5 | exact Try.underlying21 | exact Try.underlying25 | exact Try.underlying33 | exact Try.underlying53 | exact Try.underlying89) (by first | exact Try.underlying2 | exact Try.underlying3 | exact Try.underlying5 | exact Try.underlying21 | exact Try.underlying25 | exact Try.underlying33 | exact Try.underlying53 | exact Try.underlying89) ?_; (first | refine Plan.int (i64u8 _) ?_ | refine Plan.int (i64r (by omega)) ?_ | refine Plan.int (u64r (by omega)) ?_ | refine Plan.int (u8r (by omega)) ?_ | refine Plan.int (u16r (by omega)) ?_ | refine Plan.int (quoN (by omega)) ?_ | refine Plan.int (remN _ _) ?_ | refine Plan.int (u8N _) ?_ | skip))
    | refine Plan.nilOk rfl rfl rfl rfl ?_
    | refine Plan.fieldC (m := 0) rfl rfl rfl rfl (by first | exact Try.underlying65 | exact Try.underlying67 | exact Try.underlying73) rfl (by kernel_rfl) (by first | exact (show _ = 0 from rfl) | exact (show _ = 1 from rfl) | exact (show _ = 2 from rfl) | exact (show _ = 3 from rfl) | exact (show _ = 4 from rfl) | exact (show _ = 5 from rfl) | exact (show _ = 6 from rfl) | exact (show _ = 7 from rfl) | exact (show _ = 8 from rfl) | exact (show _ = 9 from rfl) | exact (show _ = 10 from rfl) | exact (show _ = 11 from rfl) | exact (show _ = 12 from rfl) | exact (show _ = 13 from rfl) | exact (show _ = 14 from rfl) | exact (show _ = 15 from rfl) | exact (show _ = 16 from rfl) | exact (show _ = 17 from rfl) | exact (show _ = 18 from rfl) | exact (show _ = 19 from rfl) | exact (show _ = 20 from rfl) | exact (show _ = 21 from rfl) | exact (show _ = 22 from rfl) | exact (show _ = 23 from rfl) | exact (show _ = 24 from rfl) | exact (show _ = 25 from rfl) | exact (show _ = 26 from rfl) | exact (show _ = 27 from rfl) | exact (show _ = 28 from rfl) | exact (show _ = 29 from rfl) | exact (show _ = 30 from rfl) | exact (show _ = 31 from rfl)) ?_
    | refine Plan.loadC (key := 1000) (q := 0) rfl rfl rfl rfl rfl rfl (obj_reads1 rfl) (by first | exact Try.underlying3 | exact Try.underlying9 | exact Try.underlying27 | exact Try.underlying4 | exact Try.underlying5 | exact Try.underlying33) (by rfl) (by decide) ?_
    | refine Plan.loadC (key := 1000) (q := 1) rfl rfl rfl rfl rfl rfl (obj_reads1 rfl) (by first | exact Try.underlying3 | exact Try.underlying9 | exact Try.underlying27 | exact Try.underlying4 | exact Try.underlying5 | exact Try.underlying33) (by rfl) (by decide) ?_
    | refine Plan.loadC (key := 1000) (q := 2) rfl rfl rfl rfl rfl rfl (obj_reads1 rfl) (by first | exact Try.underlying3 | exact Try.underlying9 | exact Try.underlying27 | exact Try.underlying4 | exact Try.underlying5 | exact Try.underlying33) (by rfl) (by decide) ?_
    | refine Plan.eqlPtr rfl rfl rfl rfl (by kernel_rfl) ?_
    | refine Plan.neqPtr rfl rfl rfl rfl (by kernel_rfl) ?_
    | refine J.seq (J.region mixed hI (by kernel_rfl) ?_)
    | refine J.region mixed hI (by kernel_rfl) ?_
    | refine J.seq (J.seq (J.region mixed hI (by kernel_rfl) ?_))
    | refine J.condF rfl ?_
    | refine J.condT rfl ?_
    | refine J.skip ?_)
          exact Nrm.mid () trivial (by repeat (first | exact Weak.nil | refine Weak.cons rfl (Sub.refl _) ?_))
      repeat (first
    | refine Plan.move rfl rfl rfl rfl ?_
    | refine Plan.assign rfl rfl rfl rfl ?_
    | refine Plan.skip rfl rfl ?_
    | refine Plan.extract rfl rfl rfl rfl rfl ?_
    | refine Plan.pick rfl rfl rfl rfl rfl ?_
    | refine Plan.lenStr rfl rfl rfl rfl Try.underlying9 ?_
    | refine Plan.lenE rfl rfl rfl rfl Try.underlying27 ?_
    | (refine Plan.ints rfl rfl rfl rfl rfl rfl ?_; (first | refine Plan.int (i64u8 _) ?_ | refine Plan.int (i64r (by omega)) ?_ | refine Plan.int (u64r (by omega)) ?_ | refine Plan.int (u8r (by omega)) ?_ | refine Plan.int (u16r (by omega)) ?_ | refine Plan.int (quoN (by omega)) ?_ | refine Plan.int (remN _ _) ?_ | refine Plan.int (u8N _) ?_ | skip))
    | refine Plan.un rfl rfl rfl rfl rfl ?_
    | refine Plan.lenB rfl rfl rfl rfl (by first | exact Sub.refl _ | exact Sub.own | exact Sub.old (fun _ h => h) | exact Sub.oldOwn (fun _ h => h) | exact Sub.nilRow | exact Sub.ownLower hB | exact Sub.nilOwn (fun _ h => Nat.le_trans hB h.size)) Try.underlying27 ?_
    | (refine Plan.convInt rfl rfl rfl rfl (by first | exact Try.underlying2 | exact Try.underlying3 | exact Try.underlying5 | exact Try.underlying21 | exact Try.underlying25 | exact Try.underlying33 | exact Try.underlying53 | exact Try.underlying89) (by first | exact Try.underlying2 | exact Try.underlying3 | exact Try.underlying5 | exact Try.underlying21 | exact Try.underlying25 | exact Try.underlying33 | exact Try.underlying53 | exact Try.underlying89) ?_; (first | refine Plan.int (i64u8 _) ?_ | refine Plan.int (i64r (by omega)) ?_ | refine Plan.int (u64r (by omega)) ?_ | refine Plan.int (u8r (by omega)) ?_ | refine Plan.int (u16r (by omega)) ?_ | refine Plan.int (quoN (by omega)) ?_ | refine Plan.int (remN _ _) ?_ | refine Plan.int (u8N _) ?_ | skip))
    | refine Plan.nilOk rfl rfl rfl rfl ?_
    | refine Plan.fieldC (m := 0) rfl rfl rfl rfl (by first | exact Try.underlying65 | exact Try.underlying67 | exact Try.underlying73) rfl (by kernel_rfl) (by first | exact (show _ = 0 from rfl) | exact (show _ = 1 from rfl) | exact (show _ = 2 from rfl) | exact (show _ = 3 from rfl) | exact (show _ = 4 from rfl) | exact (show _ = 5 from rfl) | exact (show _ = 6 from rfl) | exact (show _ = 7 from rfl) | exact (show _ = 8 from rfl) | exact (show _ = 9 from rfl) | exact (show _ = 10 from rfl) | exact (show _ = 11 from rfl) | exact (show _ = 12 from rfl) | exact (show _ = 13 from rfl) | exact (show _ = 14 from rfl) | exact (show _ = 15 from rfl) | exact (show _ = 16 from rfl) | exact (show _ = 17 from rfl) | exact (show _ = 18 from rfl) | exact (show _ = 19 from rfl) | exact (show _ = 20 from rfl) | exact (show _ = 21 from rfl) | exact (show _ = 22 from rfl) | exact (show _ = 23 from rfl) | exact (show _ = 24 from rfl) | exact (show _ = 25 from rfl) | exact (show _ = 26 from rfl) | exact (show _ = 27 from rfl) | exact (show _ = 28 from rfl) | exact (show _ = 29 from rfl) | exact (show _ = 30 from rfl) | exact (show _ = 31 from rfl)) ?_
    | refine Plan.loadC (key := 1000) (q := 0) rfl rfl rfl rfl rfl rfl (obj_reads1 rfl) (by first | exact Try.underlying3 | exact Try.underlying9 | exact Try.underlying27 | exact Try.underlying4 | exact Try.underlying5 | exact Try.underlying33) (by rfl) (by decide) ?_
    | refine Plan.loadC (key := 1000) (q := 1) rfl rfl rfl rfl rfl rfl (obj_reads1 rfl) (by first | exact Try.underlying3 | exact Try.underlying9 | exact Try.underlying27 | exact Try.underlying4 | exact Try.underlying5 | exact Try.underlying33) (by rfl) (by decide) ?_
    | refine Plan.loadC (key := 1000) (q := 2) rfl rfl rfl rfl rfl rfl (obj_reads1 rfl) (by first | exact Try.underlying3 | exact Try.underlying9 | exact Try.underlying27 | exact Try.underlying4 | exact Try.underlying5 | exact Try.underlying33) (by rfl) (by decide) ?_
    | refine Plan.eqlPtr rfl rfl rfl rfl (by kernel_rfl) ?_
    | refine Plan.neqPtr rfl rfl rfl rfl (by kernel_rfl) ?_
    | refine J.seq (J.region mixed hI (by kernel_rfl) ?_)
    | refine J.region mixed hI (by kernel_rfl) ?_
    | refine J.seq (J.seq (J.region mixed hI (by kernel_rfl) ?_))
    | refine J.condF rfl ?_
    | refine J.condT rfl ?_
    | refine J.skip ?_)
      refine J.condE rfl (fun k5 => ?_) (fun k5 => ?_)
      · simp only [dStep, if_neg k1, if_neg k2, if_neg k3, if_neg k4, if_pos k5, Prod.mk.injEq] at hd
        obtain ⟨⟨rfl, rfl⟩, rfl⟩ := hd
        repeat (first
    | refine Plan.move rfl rfl rfl rfl ?_
    | refine Plan.assign rfl rfl rfl rfl ?_
    | refine Plan.skip rfl rfl ?_
    | refine Plan.extract rfl rfl rfl rfl rfl ?_
    | refine Plan.pick rfl rfl rfl rfl rfl ?_
    | refine Plan.lenStr rfl rfl rfl rfl Try.underlying9 ?_
    | refine Plan.lenE rfl rfl rfl rfl Try.underlying27 ?_
    | (refine Plan.ints rfl rfl rfl rfl rfl rfl ?_; (first | refine Plan.int (i64u8 _) ?_ | refine Plan.int (i64r (by omega)) ?_ | refine Plan.int (u64r (by omega)) ?_ | refine Plan.int (u8r (by omega)) ?_ | refine Plan.int (u16r (by omega)) ?_ | refine Plan.int (quoN (by omega)) ?_ | refine Plan.int (remN _ _) ?_ | refine Plan.int (u8N _) ?_ | skip))
    | refine Plan.un rfl rfl rfl rfl rfl ?_
    | refine Plan.lenB rfl rfl rfl rfl (by first | exact Sub.refl _ | exact Sub.own | exact Sub.old (fun _ h => h) | exact Sub.oldOwn (fun _ h => h) | exact Sub.nilRow | exact Sub.ownLower hB | exact Sub.nilOwn (fun _ h => Nat.le_trans hB h.size)) Try.underlying27 ?_
    | (refine Plan.convInt rfl rfl rfl rfl (by first | exact Try.underlying2 | exact Try.underlying3 | exact Try.underlying5 | exact Try.underlying21 | exact Try.underlying25 | exact Try.underlying33 | exact Try.underlying53 | exact Try.underlying89) (by first | exact Try.underlying2 | exact Try.underlying3 | exact Try.underlying5 | exact Try.underlying21 | exact Try.underlying25 | exact Try.underlying33 | exact Try.underlying53 | exact Try.underlying89) ?_; (first | refine Plan.int (i64u8 _) ?_ | refine Plan.int (i64r (by omega)) ?_ | refine Plan.int (u64r (by omega)) ?_ | refine Plan.int (u8r (by omega)) ?_ | refine Plan.int (u16r (by omega)) ?_ | refine Plan.int (quoN (by omega)) ?_ | refine Plan.int (remN _ _) ?_ | refine Plan.int (u8N _) ?_ | skip))
    | refine Plan.nilOk rfl rfl rfl rfl ?_
    | refine Plan.fieldC (m := 0) rfl rfl rfl rfl (by first | exact Try.underlying65 | exact Try.underlying67 | exact Try.underlying73) rfl (by kernel_rfl) (by first | exact (show _ = 0 from rfl) | exact (show _ = 1 from rfl) | exact (show _ = 2 from rfl) | exact (show _ = 3 from rfl) | exact (show _ = 4 from rfl) | exact (show _ = 5 from rfl) | exact (show _ = 6 from rfl) | exact (show _ = 7 from rfl) | exact (show _ = 8 from rfl) | exact (show _ = 9 from rfl) | exact (show _ = 10 from rfl) | exact (show _ = 11 from rfl) | exact (show _ = 12 from rfl) | exact (show _ = 13 from rfl) | exact (show _ = 14 from rfl) | exact (show _ = 15 from rfl) | exact (show _ = 16 from rfl) | exact (show _ = 17 from rfl) | exact (show _ = 18 from rfl) | exact (show _ = 19 from rfl) | exact (show _ = 20 from rfl) | exact (show _ = 21 from rfl) | exact (show _ = 22 from rfl) | exact (show _ = 23 from rfl) | exact (show _ = 24 from rfl) | exact (show _ = 25 from rfl) | exact (show _ = 26 from rfl) | exact (show _ = 27 from rfl) | exact (show _ = 28 from rfl) | exact (show _ = 29 from rfl) | exact (show _ = 30 from rfl) | exact (show _ = 31 from rfl)) ?_
    | refine Plan.loadC (key := 1000) (q := 0) rfl rfl rfl rfl rfl rfl (obj_reads1 rfl) (by first | exact Try.underlying3 | exact Try.underlying9 | exact Try.underlying27 | exact Try.underlying4 | exact Try.underlying5 | exact Try.underlying33) (by rfl) (by decide) ?_
    | refine Plan.loadC (key := 1000) (q := 1) rfl rfl rfl rfl rfl rfl (obj_reads1 rfl) (by first | exact Try.underlying3 | exact Try.underlying9 | exact Try.underlying27 | exact Try.underlying4 | exact Try.underlying5 | exact Try.underlying33) (by rfl) (by decide) ?_
    | refine Plan.loadC (key := 1000) (q := 2) rfl rfl rfl rfl rfl rfl (obj_reads1 rfl) (by first | exact Try.underlying3 | exact Try.underlying9 | exact Try.underlying27 | exact Try.underlying4 | exact Try.underlying5 | exact Try.underlying33) (by rfl) (by decide) ?_
    | refine Plan.eqlPtr rfl rfl rfl rfl (by kernel_rfl) ?_
    | refine Plan.neqPtr rfl rfl rfl rfl (by kernel_rfl) ?_
    | refine J.seq (J.region mixed hI (by kernel_rfl) ?_)
    | refine J.region mixed hI (by kernel_rfl) ?_
    | refine J.seq (J.seq (J.region mixed hI (by kernel_rfl) ?_))
    | refine J.condF rfl ?_
    | refine J.condT rfl ?_
    | refine J.skip ?_)
        refine Plan.callC (key := 1000) (q := 1) rfl rfl rfl (ref_Crash γ l f R o.n o.at_ o.turn (by omega) hf hoV.2.1 hoV.2.2.1 hoV.2.2.2.1) Try.func39 rfl rfl (by intro _ e; cases e; decide) (by repeat (first | exact Opnds.nil | refine Opnds.cons rfl (by first | exact Sub.refl _ | exact Sub.own | exact Sub.old (fun _ h => h) | exact Sub.oldOwn (fun _ h => h) | exact Sub.nilRow) ?_)) rfl hA rfl ?_
        intro _ _
        exact Nrm.mid () trivial (by repeat (first | exact Weak.nil | refine Weak.cons rfl (Sub.refl _) ?_))
      · simp only [dStep, if_neg k1, if_neg k2, if_neg k3, if_neg k4, if_neg k5, Prod.mk.injEq] at hd
        obtain ⟨⟨rfl, rfl⟩, rfl⟩ := hd
        refine J.skip ?_
        exact Nrm.mid () trivial (by repeat (first | exact Weak.nil | refine Weak.cons rfl (Sub.refl _) ?_))
    · intro _ _
      repeat (first
    | refine Plan.move rfl rfl rfl rfl ?_
    | refine Plan.assign rfl rfl rfl rfl ?_
    | refine Plan.skip rfl rfl ?_
    | refine Plan.extract rfl rfl rfl rfl rfl ?_
    | refine Plan.pick rfl rfl rfl rfl rfl ?_
    | refine Plan.lenStr rfl rfl rfl rfl Try.underlying9 ?_
    | refine Plan.lenE rfl rfl rfl rfl Try.underlying27 ?_
    | (refine Plan.ints rfl rfl rfl rfl rfl rfl ?_; (first | refine Plan.int (i64u8 _) ?_ | refine Plan.int (i64r (by omega)) ?_ | refine Plan.int (u64r (by omega)) ?_ | refine Plan.int (u8r (by omega)) ?_ | refine Plan.int (u16r (by omega)) ?_ | refine Plan.int (quoN (by omega)) ?_ | refine Plan.int (remN _ _) ?_ | refine Plan.int (u8N _) ?_ | skip))
    | refine Plan.un rfl rfl rfl rfl rfl ?_
    | refine Plan.lenB rfl rfl rfl rfl (by first | exact Sub.refl _ | exact Sub.own | exact Sub.old (fun _ h => h) | exact Sub.oldOwn (fun _ h => h) | exact Sub.nilRow | exact Sub.ownLower hB | exact Sub.nilOwn (fun _ h => Nat.le_trans hB h.size)) Try.underlying27 ?_
    | (refine Plan.convInt rfl rfl rfl rfl (by first | exact Try.underlying2 | exact Try.underlying3 | exact Try.underlying5 | exact Try.underlying21 | exact Try.underlying25 | exact Try.underlying33 | exact Try.underlying53 | exact Try.underlying89) (by first | exact Try.underlying2 | exact Try.underlying3 | exact Try.underlying5 | exact Try.underlying21 | exact Try.underlying25 | exact Try.underlying33 | exact Try.underlying53 | exact Try.underlying89) ?_; (first | refine Plan.int (i64u8 _) ?_ | refine Plan.int (i64r (by omega)) ?_ | refine Plan.int (u64r (by omega)) ?_ | refine Plan.int (u8r (by omega)) ?_ | refine Plan.int (u16r (by omega)) ?_ | refine Plan.int (quoN (by omega)) ?_ | refine Plan.int (remN _ _) ?_ | refine Plan.int (u8N _) ?_ | skip))
    | refine Plan.nilOk rfl rfl rfl rfl ?_
    | refine Plan.fieldC (m := 0) rfl rfl rfl rfl (by first | exact Try.underlying65 | exact Try.underlying67 | exact Try.underlying73) rfl (by kernel_rfl) (by first | exact (show _ = 0 from rfl) | exact (show _ = 1 from rfl) | exact (show _ = 2 from rfl) | exact (show _ = 3 from rfl) | exact (show _ = 4 from rfl) | exact (show _ = 5 from rfl) | exact (show _ = 6 from rfl) | exact (show _ = 7 from rfl) | exact (show _ = 8 from rfl) | exact (show _ = 9 from rfl) | exact (show _ = 10 from rfl) | exact (show _ = 11 from rfl) | exact (show _ = 12 from rfl) | exact (show _ = 13 from rfl) | exact (show _ = 14 from rfl) | exact (show _ = 15 from rfl) | exact (show _ = 16 from rfl) | exact (show _ = 17 from rfl) | exact (show _ = 18 from rfl) | exact (show _ = 19 from rfl) | exact (show _ = 20 from rfl) | exact (show _ = 21 from rfl) | exact (show _ = 22 from rfl) | exact (show _ = 23 from rfl) | exact (show _ = 24 from rfl) | exact (show _ = 25 from rfl) | exact (show _ = 26 from rfl) | exact (show _ = 27 from rfl) | exact (show _ = 28 from rfl) | exact (show _ = 29 from rfl) | exact (show _ = 30 from rfl) | exact (show _ = 31 from rfl)) ?_
    | refine Plan.loadC (key := 1000) (q := 0) rfl rfl rfl rfl rfl rfl (obj_reads1 rfl) (by first | exact Try.underlying3 | exact Try.underlying9 | exact Try.underlying27 | exact Try.underlying4 | exact Try.underlying5 | exact Try.underlying33) (by rfl) (by decide) ?_
    | refine Plan.loadC (key := 1000) (q := 1) rfl rfl rfl rfl rfl rfl (obj_reads1 rfl) (by first | exact Try.underlying3 | exact Try.underlying9 | exact Try.underlying27 | exact Try.underlying4 | exact Try.underlying5 | exact Try.underlying33) (by rfl) (by decide) ?_
    | refine Plan.loadC (key := 1000) (q := 2) rfl rfl rfl rfl rfl rfl (obj_reads1 rfl) (by first | exact Try.underlying3 | exact Try.underlying9 | exact Try.underlying27 | exact Try.underlying4 | exact Try.underlying5 | exact Try.underlying33) (by rfl) (by decide) ?_
    | refine Plan.eqlPtr rfl rfl rfl rfl (by kernel_rfl) ?_
    | refine Plan.neqPtr rfl rfl rfl rfl (by kernel_rfl) ?_
    | refine J.seq (J.region mixed hI (by kernel_rfl) ?_)
    | refine J.region mixed hI (by kernel_rfl) ?_
    | refine J.seq (J.seq (J.region mixed hI (by kernel_rfl) ?_))
    | refine J.condF rfl ?_
    | refine J.condT rfl ?_
    | refine J.skip ?_)
      refine Plan.boolv (y := false) (by simp) ?_
      repeat (first
    | refine Plan.move rfl rfl rfl rfl ?_
    | refine Plan.assign rfl rfl rfl rfl ?_
    | refine Plan.skip rfl rfl ?_
    | refine Plan.extract rfl rfl rfl rfl rfl ?_
    | refine Plan.pick rfl rfl rfl rfl rfl ?_
    | refine Plan.lenStr rfl rfl rfl rfl Try.underlying9 ?_
    | refine Plan.lenE rfl rfl rfl rfl Try.underlying27 ?_
    | (refine Plan.ints rfl rfl rfl rfl rfl rfl ?_; (first | refine Plan.int (i64u8 _) ?_ | refine Plan.int (i64r (by omega)) ?_ | refine Plan.int (u64r (by omega)) ?_ | refine Plan.int (u8r (by omega)) ?_ | refine Plan.int (u16r (by omega)) ?_ | refine Plan.int (quoN (by omega)) ?_ | refine Plan.int (remN _ _) ?_ | refine Plan.int (u8N _) ?_ | skip))
    | refine Plan.un rfl rfl rfl rfl rfl ?_
    | refine Plan.lenB rfl rfl rfl rfl (by first | exact Sub.refl _ | exact Sub.own | exact Sub.old (fun _ h => h) | exact Sub.oldOwn (fun _ h => h) | exact Sub.nilRow | exact Sub.ownLower hB | exact Sub.nilOwn (fun _ h => Nat.le_trans hB h.size)) Try.underlying27 ?_
    | (refine Plan.convInt rfl rfl rfl rfl (by first | exact Try.underlying2 | exact Try.underlying3 | exact Try.underlying5 | exact Try.underlying21 | exact Try.underlying25 | exact Try.underlying33 | exact Try.underlying53 | exact Try.underlying89) (by first | exact Try.underlying2 | exact Try.underlying3 | exact Try.underlying5 | exact Try.underlying21 | exact Try.underlying25 | exact Try.underlying33 | exact Try.underlying53 | exact Try.underlying89) ?_; (first | refine Plan.int (i64u8 _) ?_ | refine Plan.int (i64r (by omega)) ?_ | refine Plan.int (u64r (by omega)) ?_ | refine Plan.int (u8r (by omega)) ?_ | refine Plan.int (u16r (by omega)) ?_ | refine Plan.int (quoN (by omega)) ?_ | refine Plan.int (remN _ _) ?_ | refine Plan.int (u8N _) ?_ | skip))
    | refine Plan.nilOk rfl rfl rfl rfl ?_
    | refine Plan.fieldC (m := 0) rfl rfl rfl rfl (by first | exact Try.underlying65 | exact Try.underlying67 | exact Try.underlying73) rfl (by kernel_rfl) (by first | exact (show _ = 0 from rfl) | exact (show _ = 1 from rfl) | exact (show _ = 2 from rfl) | exact (show _ = 3 from rfl) | exact (show _ = 4 from rfl) | exact (show _ = 5 from rfl) | exact (show _ = 6 from rfl) | exact (show _ = 7 from rfl) | exact (show _ = 8 from rfl) | exact (show _ = 9 from rfl) | exact (show _ = 10 from rfl) | exact (show _ = 11 from rfl) | exact (show _ = 12 from rfl) | exact (show _ = 13 from rfl) | exact (show _ = 14 from rfl) | exact (show _ = 15 from rfl) | exact (show _ = 16 from rfl) | exact (show _ = 17 from rfl) | exact (show _ = 18 from rfl) | exact (show _ = 19 from rfl) | exact (show _ = 20 from rfl) | exact (show _ = 21 from rfl) | exact (show _ = 22 from rfl) | exact (show _ = 23 from rfl) | exact (show _ = 24 from rfl) | exact (show _ = 25 from rfl) | exact (show _ = 26 from rfl) | exact (show _ = 27 from rfl) | exact (show _ = 28 from rfl) | exact (show _ = 29 from rfl) | exact (show _ = 30 from rfl) | exact (show _ = 31 from rfl)) ?_
    | refine Plan.loadC (key := 1000) (q := 0) rfl rfl rfl rfl rfl rfl (obj_reads1 rfl) (by first | exact Try.underlying3 | exact Try.underlying9 | exact Try.underlying27 | exact Try.underlying4 | exact Try.underlying5 | exact Try.underlying33) (by rfl) (by decide) ?_
    | refine Plan.loadC (key := 1000) (q := 1) rfl rfl rfl rfl rfl rfl (obj_reads1 rfl) (by first | exact Try.underlying3 | exact Try.underlying9 | exact Try.underlying27 | exact Try.underlying4 | exact Try.underlying5 | exact Try.underlying33) (by rfl) (by decide) ?_
    | refine Plan.loadC (key := 1000) (q := 2) rfl rfl rfl rfl rfl rfl (obj_reads1 rfl) (by first | exact Try.underlying3 | exact Try.underlying9 | exact Try.underlying27 | exact Try.underlying4 | exact Try.underlying5 | exact Try.underlying33) (by rfl) (by decide) ?_
    | refine Plan.eqlPtr rfl rfl rfl rfl (by kernel_rfl) ?_
    | refine Plan.neqPtr rfl rfl rfl rfl (by kernel_rfl) ?_
    | refine J.seq (J.region mixed hI (by kernel_rfl) ?_)
    | refine J.region mixed hI (by kernel_rfl) ?_
    | refine J.seq (J.seq (J.region mixed hI (by kernel_rfl) ?_))
    | refine J.condF rfl ?_
    | refine J.condT rfl ?_
    | refine J.skip ?_)
      refine Plan.callR (key := 1000) (B := 0) (q := 0) rfl rfl rfl (disk_Bytes β l' f' R (by omega)) Try.func19 rfl rfl (fun _ _ => Nat.zero_le _) (by repeat (first | exact Opnds.nil | refine Opnds.cons rfl (by first | exact Sub.refl _ | exact Sub.own | exact Sub.old (fun _ h => h) | exact Sub.oldOwn (fun _ h => h) | exact Sub.nilRow) ?_)) rfl rfl (by decide) ?_
      refine Plan.convBS (p := l') rfl rfl rfl rfl Sub.own Try.underlying27 Try.underlying9 Try.underlying5 ?_
      repeat (first
    | refine Plan.move rfl rfl rfl rfl ?_
    | refine Plan.assign rfl rfl rfl rfl ?_
    | refine Plan.skip rfl rfl ?_
    | refine Plan.extract rfl rfl rfl rfl rfl ?_
    | refine Plan.pick rfl rfl rfl rfl rfl ?_
    | refine Plan.lenStr rfl rfl rfl rfl Try.underlying9 ?_
    | refine Plan.lenE rfl rfl rfl rfl Try.underlying27 ?_
    | (refine Plan.ints rfl rfl rfl rfl rfl rfl ?_; (first | refine Plan.int (i64u8 _) ?_ | refine Plan.int (i64r (by omega)) ?_ | refine Plan.int (u64r (by omega)) ?_ | refine Plan.int (u8r (by omega)) ?_ | refine Plan.int (u16r (by omega)) ?_ | refine Plan.int (quoN (by omega)) ?_ | refine Plan.int (remN _ _) ?_ | refine Plan.int (u8N _) ?_ | skip))
    | refine Plan.un rfl rfl rfl rfl rfl ?_
    | refine Plan.lenB rfl rfl rfl rfl (by first | exact Sub.refl _ | exact Sub.own | exact Sub.old (fun _ h => h) | exact Sub.oldOwn (fun _ h => h) | exact Sub.nilRow | exact Sub.ownLower hB | exact Sub.nilOwn (fun _ h => Nat.le_trans hB h.size)) Try.underlying27 ?_
    | (refine Plan.convInt rfl rfl rfl rfl (by first | exact Try.underlying2 | exact Try.underlying3 | exact Try.underlying5 | exact Try.underlying21 | exact Try.underlying25 | exact Try.underlying33 | exact Try.underlying53 | exact Try.underlying89) (by first | exact Try.underlying2 | exact Try.underlying3 | exact Try.underlying5 | exact Try.underlying21 | exact Try.underlying25 | exact Try.underlying33 | exact Try.underlying53 | exact Try.underlying89) ?_; (first | refine Plan.int (i64u8 _) ?_ | refine Plan.int (i64r (by omega)) ?_ | refine Plan.int (u64r (by omega)) ?_ | refine Plan.int (u8r (by omega)) ?_ | refine Plan.int (u16r (by omega)) ?_ | refine Plan.int (quoN (by omega)) ?_ | refine Plan.int (remN _ _) ?_ | refine Plan.int (u8N _) ?_ | skip))
    | refine Plan.nilOk rfl rfl rfl rfl ?_
    | refine Plan.fieldC (m := 0) rfl rfl rfl rfl (by first | exact Try.underlying65 | exact Try.underlying67 | exact Try.underlying73) rfl (by kernel_rfl) (by first | exact (show _ = 0 from rfl) | exact (show _ = 1 from rfl) | exact (show _ = 2 from rfl) | exact (show _ = 3 from rfl) | exact (show _ = 4 from rfl) | exact (show _ = 5 from rfl) | exact (show _ = 6 from rfl) | exact (show _ = 7 from rfl) | exact (show _ = 8 from rfl) | exact (show _ = 9 from rfl) | exact (show _ = 10 from rfl) | exact (show _ = 11 from rfl) | exact (show _ = 12 from rfl) | exact (show _ = 13 from rfl) | exact (show _ = 14 from rfl) | exact (show _ = 15 from rfl) | exact (show _ = 16 from rfl) | exact (show _ = 17 from rfl) | exact (show _ = 18 from rfl) | exact (show _ = 19 from rfl) | exact (show _ = 20 from rfl) | exact (show _ = 21 from rfl) | exact (show _ = 22 from rfl) | exact (show _ = 23 from rfl) | exact (show _ = 24 from rfl) | exact (show _ = 25 from rfl) | exact (show _ = 26 from rfl) | exact (show _ = 27 from rfl) | exact (show _ = 28 from rfl) | exact (show _ = 29 from rfl) | exact (show _ = 30 from rfl) | exact (show _ = 31 from rfl)) ?_
    | refine Plan.loadC (key := 1000) (q := 0) rfl rfl rfl rfl rfl rfl (obj_reads1 rfl) (by first | exact Try.underlying3 | exact Try.underlying9 | exact Try.underlying27 | exact Try.underlying4 | exact Try.underlying5 | exact Try.underlying33) (by rfl) (by decide) ?_
    | refine Plan.loadC (key := 1000) (q := 1) rfl rfl rfl rfl rfl rfl (obj_reads1 rfl) (by first | exact Try.underlying3 | exact Try.underlying9 | exact Try.underlying27 | exact Try.underlying4 | exact Try.underlying5 | exact Try.underlying33) (by rfl) (by decide) ?_
    | refine Plan.loadC (key := 1000) (q := 2) rfl rfl rfl rfl rfl rfl (obj_reads1 rfl) (by first | exact Try.underlying3 | exact Try.underlying9 | exact Try.underlying27 | exact Try.underlying4 | exact Try.underlying5 | exact Try.underlying33) (by rfl) (by decide) ?_
    | refine Plan.eqlPtr rfl rfl rfl rfl (by kernel_rfl) ?_
    | refine Plan.neqPtr rfl rfl rfl rfl (by kernel_rfl) ?_
    | refine J.seq (J.region mixed hI (by kernel_rfl) ?_)
    | refine J.region mixed hI (by kernel_rfl) ?_
    | refine J.seq (J.seq (J.region mixed hI (by kernel_rfl) ?_))
    | refine J.condF rfl ?_
    | refine J.condT rfl ?_
    | refine J.skip ?_)
      refine Plan.strs rfl rfl rfl rfl rfl rfl ?_
      refine Plan.boolv (y := false) (by simp) ?_
      repeat (first
    | refine Plan.move rfl rfl rfl rfl ?_
    | refine Plan.assign rfl rfl rfl rfl ?_
    | refine Plan.skip rfl rfl ?_
    | refine Plan.extract rfl rfl rfl rfl rfl ?_
    | refine Plan.pick rfl rfl rfl rfl rfl ?_
    | refine Plan.lenStr rfl rfl rfl rfl Try.underlying9 ?_
    | refine Plan.lenE rfl rfl rfl rfl Try.underlying27 ?_
    | (refine Plan.ints rfl rfl rfl rfl rfl rfl ?_; (first | refine Plan.int (i64u8 _) ?_ | refine Plan.int (i64r (by omega)) ?_ | refine Plan.int (u64r (by omega)) ?_ | refine Plan.int (u8r (by omega)) ?_ | refine Plan.int (u16r (by omega)) ?_ | refine Plan.int (quoN (by omega)) ?_ | refine Plan.int (remN _ _) ?_ | refine Plan.int (u8N _) ?_ | skip))
    | refine Plan.un rfl rfl rfl rfl rfl ?_
    | refine Plan.lenB rfl rfl rfl rfl (by first | exact Sub.refl _ | exact Sub.own | exact Sub.old (fun _ h => h) | exact Sub.oldOwn (fun _ h => h) | exact Sub.nilRow | exact Sub.ownLower hB | exact Sub.nilOwn (fun _ h => Nat.le_trans hB h.size)) Try.underlying27 ?_
    | (refine Plan.convInt rfl rfl rfl rfl (by first | exact Try.underlying2 | exact Try.underlying3 | exact Try.underlying5 | exact Try.underlying21 | exact Try.underlying25 | exact Try.underlying33 | exact Try.underlying53 | exact Try.underlying89) (by first | exact Try.underlying2 | exact Try.underlying3 | exact Try.underlying5 | exact Try.underlying21 | exact Try.underlying25 | exact Try.underlying33 | exact Try.underlying53 | exact Try.underlying89) ?_; (first | refine Plan.int (i64u8 _) ?_ | refine Plan.int (i64r (by omega)) ?_ | refine Plan.int (u64r (by omega)) ?_ | refine Plan.int (u8r (by omega)) ?_ | refine Plan.int (u16r (by omega)) ?_ | refine Plan.int (quoN (by omega)) ?_ | refine Plan.int (remN _ _) ?_ | refine Plan.int (u8N _) ?_ | skip))
    | refine Plan.nilOk rfl rfl rfl rfl ?_
    | refine Plan.fieldC (m := 0) rfl rfl rfl rfl (by first | exact Try.underlying65 | exact Try.underlying67 | exact Try.underlying73) rfl (by kernel_rfl) (by first | exact (show _ = 0 from rfl) | exact (show _ = 1 from rfl) | exact (show _ = 2 from rfl) | exact (show _ = 3 from rfl) | exact (show _ = 4 from rfl) | exact (show _ = 5 from rfl) | exact (show _ = 6 from rfl) | exact (show _ = 7 from rfl) | exact (show _ = 8 from rfl) | exact (show _ = 9 from rfl) | exact (show _ = 10 from rfl) | exact (show _ = 11 from rfl) | exact (show _ = 12 from rfl) | exact (show _ = 13 from rfl) | exact (show _ = 14 from rfl) | exact (show _ = 15 from rfl) | exact (show _ = 16 from rfl) | exact (show _ = 17 from rfl) | exact (show _ = 18 from rfl) | exact (show _ = 19 from rfl) | exact (show _ = 20 from rfl) | exact (show _ = 21 from rfl) | exact (show _ = 22 from rfl) | exact (show _ = 23 from rfl) | exact (show _ = 24 from rfl) | exact (show _ = 25 from rfl) | exact (show _ = 26 from rfl) | exact (show _ = 27 from rfl) | exact (show _ = 28 from rfl) | exact (show _ = 29 from rfl) | exact (show _ = 30 from rfl) | exact (show _ = 31 from rfl)) ?_
    | refine Plan.loadC (key := 1000) (q := 0) rfl rfl rfl rfl rfl rfl (obj_reads1 rfl) (by first | exact Try.underlying3 | exact Try.underlying9 | exact Try.underlying27 | exact Try.underlying4 | exact Try.underlying5 | exact Try.underlying33) (by rfl) (by decide) ?_
    | refine Plan.loadC (key := 1000) (q := 1) rfl rfl rfl rfl rfl rfl (obj_reads1 rfl) (by first | exact Try.underlying3 | exact Try.underlying9 | exact Try.underlying27 | exact Try.underlying4 | exact Try.underlying5 | exact Try.underlying33) (by rfl) (by decide) ?_
    | refine Plan.loadC (key := 1000) (q := 2) rfl rfl rfl rfl rfl rfl (obj_reads1 rfl) (by first | exact Try.underlying3 | exact Try.underlying9 | exact Try.underlying27 | exact Try.underlying4 | exact Try.underlying5 | exact Try.underlying33) (by rfl) (by decide) ?_
    | refine Plan.eqlPtr rfl rfl rfl rfl (by kernel_rfl) ?_
    | refine Plan.neqPtr rfl rfl rfl rfl (by kernel_rfl) ?_
    | refine J.seq (J.region mixed hI (by kernel_rfl) ?_)
    | refine J.region mixed hI (by kernel_rfl) ?_
    | refine J.seq (J.seq (J.region mixed hI (by kernel_rfl) ?_))
    | refine J.condF rfl ?_
    | refine J.condT rfl ?_
    | refine J.skip ?_)
      refine Plan.callR (key := 1000) (B := 0) (q := 0) rfl rfl rfl (disk_Fast β l' f' R) Try.func20 rfl rfl (fun _ _ => Nat.zero_le _) (by repeat (first | exact Opnds.nil | refine Opnds.cons rfl (by first | exact Sub.refl _ | exact Sub.own | exact Sub.old (fun _ h => h) | exact Sub.oldOwn (fun _ h => h) | exact Sub.nilRow) ?_)) rfl rfl (by decide) ?_
      repeat (first
    | refine Plan.move rfl rfl rfl rfl ?_
    | refine Plan.assign rfl rfl rfl rfl ?_
    | refine Plan.skip rfl rfl ?_
    | refine Plan.extract rfl rfl rfl rfl rfl ?_
    | refine Plan.pick rfl rfl rfl rfl rfl ?_
    | refine Plan.lenStr rfl rfl rfl rfl Try.underlying9 ?_
    | refine Plan.lenE rfl rfl rfl rfl Try.underlying27 ?_
    | (refine Plan.ints rfl rfl rfl rfl rfl rfl ?_; (first | refine Plan.int (i64u8 _) ?_ | refine Plan.int (i64r (by omega)) ?_ | refine Plan.int (u64r (by omega)) ?_ | refine Plan.int (u8r (by omega)) ?_ | refine Plan.int (u16r (by omega)) ?_ | refine Plan.int (quoN (by omega)) ?_ | refine Plan.int (remN _ _) ?_ | refine Plan.int (u8N _) ?_ | skip))
    | refine Plan.un rfl rfl rfl rfl rfl ?_
    | refine Plan.lenB rfl rfl rfl rfl (by first | exact Sub.refl _ | exact Sub.own | exact Sub.old (fun _ h => h) | exact Sub.oldOwn (fun _ h => h) | exact Sub.nilRow | exact Sub.ownLower hB | exact Sub.nilOwn (fun _ h => Nat.le_trans hB h.size)) Try.underlying27 ?_
    | (refine Plan.convInt rfl rfl rfl rfl (by first | exact Try.underlying2 | exact Try.underlying3 | exact Try.underlying5 | exact Try.underlying21 | exact Try.underlying25 | exact Try.underlying33 | exact Try.underlying53 | exact Try.underlying89) (by first | exact Try.underlying2 | exact Try.underlying3 | exact Try.underlying5 | exact Try.underlying21 | exact Try.underlying25 | exact Try.underlying33 | exact Try.underlying53 | exact Try.underlying89) ?_; (first | refine Plan.int (i64u8 _) ?_ | refine Plan.int (i64r (by omega)) ?_ | refine Plan.int (u64r (by omega)) ?_ | refine Plan.int (u8r (by omega)) ?_ | refine Plan.int (u16r (by omega)) ?_ | refine Plan.int (quoN (by omega)) ?_ | refine Plan.int (remN _ _) ?_ | refine Plan.int (u8N _) ?_ | skip))
    | refine Plan.nilOk rfl rfl rfl rfl ?_
    | refine Plan.fieldC (m := 0) rfl rfl rfl rfl (by first | exact Try.underlying65 | exact Try.underlying67 | exact Try.underlying73) rfl (by kernel_rfl) (by first | exact (show _ = 0 from rfl) | exact (show _ = 1 from rfl) | exact (show _ = 2 from rfl) | exact (show _ = 3 from rfl) | exact (show _ = 4 from rfl) | exact (show _ = 5 from rfl) | exact (show _ = 6 from rfl) | exact (show _ = 7 from rfl) | exact (show _ = 8 from rfl) | exact (show _ = 9 from rfl) | exact (show _ = 10 from rfl) | exact (show _ = 11 from rfl) | exact (show _ = 12 from rfl) | exact (show _ = 13 from rfl) | exact (show _ = 14 from rfl) | exact (show _ = 15 from rfl) | exact (show _ = 16 from rfl) | exact (show _ = 17 from rfl) | exact (show _ = 18 from rfl) | exact (show _ = 19 from rfl) | exact (show _ = 20 from rfl) | exact (show _ = 21 from rfl) | exact (show _ = 22 from rfl) | exact (show _ = 23 from rfl) | exact (show _ = 24 from rfl) | exact (show _ = 25 from rfl) | exact (show _ = 26 from rfl) | exact (show _ = 27 from rfl) | exact (show _ = 28 from rfl) | exact (show _ = 29 from rfl) | exact (show _ = 30 from rfl) | exact (show _ = 31 from rfl)) ?_
    | refine Plan.loadC (key := 1000) (q := 0) rfl rfl rfl rfl rfl rfl (obj_reads1 rfl) (by first | exact Try.underlying3 | exact Try.underlying9 | exact Try.underlying27 | exact Try.underlying4 | exact Try.underlying5 | exact Try.underlying33) (by rfl) (by decide) ?_
    | refine Plan.loadC (key := 1000) (q := 1) rfl rfl rfl rfl rfl rfl (obj_reads1 rfl) (by first | exact Try.underlying3 | exact Try.underlying9 | exact Try.underlying27 | exact Try.underlying4 | exact Try.underlying5 | exact Try.underlying33) (by rfl) (by decide) ?_
    | refine Plan.loadC (key := 1000) (q := 2) rfl rfl rfl rfl rfl rfl (obj_reads1 rfl) (by first | exact Try.underlying3 | exact Try.underlying9 | exact Try.underlying27 | exact Try.underlying4 | exact Try.underlying5 | exact Try.underlying33) (by rfl) (by decide) ?_
    | refine Plan.eqlPtr rfl rfl rfl rfl (by kernel_rfl) ?_
    | refine Plan.neqPtr rfl rfl rfl rfl (by kernel_rfl) ?_
    | refine J.seq (J.region mixed hI (by kernel_rfl) ?_)
    | refine J.region mixed hI (by kernel_rfl) ?_
    | refine J.seq (J.seq (J.region mixed hI (by kernel_rfl) ?_))
    | refine J.condF rfl ?_
    | refine J.condT rfl ?_
    | refine J.skip ?_)
      refine Plan.boolv (y := false) (by simp) ?_
      repeat (first
    | refine Plan.move rfl rfl rfl rfl ?_
    | refine Plan.assign rfl rfl rfl rfl ?_
    | refine Plan.skip rfl rfl ?_
    | refine Plan.extract rfl rfl rfl rfl rfl ?_
    | refine Plan.pick rfl rfl rfl rfl rfl ?_
    | refine Plan.lenStr rfl rfl rfl rfl Try.underlying9 ?_
    | refine Plan.lenE rfl rfl rfl rfl Try.underlying27 ?_
    | (refine Plan.ints rfl rfl rfl rfl rfl rfl ?_; (first | refine Plan.int (i64u8 _) ?_ | refine Plan.int (i64r (by omega)) ?_ | refine Plan.int (u64r (by omega)) ?_ | refine Plan.int (u8r (by omega)) ?_ | refine Plan.int (u16r (by omega)) ?_ | refine Plan.int (quoN (by omega)) ?_ | refine Plan.int (remN _ _) ?_ | refine Plan.int (u8N _) ?_ | skip))
    | refine Plan.un rfl rfl rfl rfl rfl ?_
    | refine Plan.lenB rfl rfl rfl rfl (by first | exact Sub.refl _ | exact Sub.own | exact Sub.old (fun _ h => h) | exact Sub.oldOwn (fun _ h => h) | exact Sub.nilRow | exact Sub.ownLower hB | exact Sub.nilOwn (fun _ h => Nat.le_trans hB h.size)) Try.underlying27 ?_
    | (refine Plan.convInt rfl rfl rfl rfl (by first | exact Try.underlying2 | exact Try.underlying3 | exact Try.underlying5 | exact Try.underlying21 | exact Try.underlying25 | exact Try.underlying33 | exact Try.underlying53 | exact Try.underlying89) (by first | exact Try.underlying2 | exact Try.underlying3 | exact Try.underlying5 | exact Try.underlying21 | exact Try.underlying25 | exact Try.underlying33 | exact Try.underlying53 | exact Try.underlying89) ?_; (first | refine Plan.int (i64u8 _) ?_ | refine Plan.int (i64r (by omega)) ?_ | refine Plan.int (u64r (by omega)) ?_ | refine Plan.int (u8r (by omega)) ?_ | refine Plan.int (u16r (by omega)) ?_ | refine Plan.int (quoN (by omega)) ?_ | refine Plan.int (remN _ _) ?_ | refine Plan.int (u8N _) ?_ | skip))
    | refine Plan.nilOk rfl rfl rfl rfl ?_
    | refine Plan.fieldC (m := 0) rfl rfl rfl rfl (by first | exact Try.underlying65 | exact Try.underlying67 | exact Try.underlying73) rfl (by kernel_rfl) (by first | exact (show _ = 0 from rfl) | exact (show _ = 1 from rfl) | exact (show _ = 2 from rfl) | exact (show _ = 3 from rfl) | exact (show _ = 4 from rfl) | exact (show _ = 5 from rfl) | exact (show _ = 6 from rfl) | exact (show _ = 7 from rfl) | exact (show _ = 8 from rfl) | exact (show _ = 9 from rfl) | exact (show _ = 10 from rfl) | exact (show _ = 11 from rfl) | exact (show _ = 12 from rfl) | exact (show _ = 13 from rfl) | exact (show _ = 14 from rfl) | exact (show _ = 15 from rfl) | exact (show _ = 16 from rfl) | exact (show _ = 17 from rfl) | exact (show _ = 18 from rfl) | exact (show _ = 19 from rfl) | exact (show _ = 20 from rfl) | exact (show _ = 21 from rfl) | exact (show _ = 22 from rfl) | exact (show _ = 23 from rfl) | exact (show _ = 24 from rfl) | exact (show _ = 25 from rfl) | exact (show _ = 26 from rfl) | exact (show _ = 27 from rfl) | exact (show _ = 28 from rfl) | exact (show _ = 29 from rfl) | exact (show _ = 30 from rfl) | exact (show _ = 31 from rfl)) ?_
    | refine Plan.loadC (key := 1000) (q := 0) rfl rfl rfl rfl rfl rfl (obj_reads1 rfl) (by first | exact Try.underlying3 | exact Try.underlying9 | exact Try.underlying27 | exact Try.underlying4 | exact Try.underlying5 | exact Try.underlying33) (by rfl) (by decide) ?_
    | refine Plan.loadC (key := 1000) (q := 1) rfl rfl rfl rfl rfl rfl (obj_reads1 rfl) (by first | exact Try.underlying3 | exact Try.underlying9 | exact Try.underlying27 | exact Try.underlying4 | exact Try.underlying5 | exact Try.underlying33) (by rfl) (by decide) ?_
    | refine Plan.loadC (key := 1000) (q := 2) rfl rfl rfl rfl rfl rfl (obj_reads1 rfl) (by first | exact Try.underlying3 | exact Try.underlying9 | exact Try.underlying27 | exact Try.underlying4 | exact Try.underlying5 | exact Try.underlying33) (by rfl) (by decide) ?_
    | refine Plan.eqlPtr rfl rfl rfl rfl (by kernel_rfl) ?_
    | refine Plan.neqPtr rfl rfl rfl rfl (by kernel_rfl) ?_
    | refine J.seq (J.region mixed hI (by kernel_rfl) ?_)
    | refine J.region mixed hI (by kernel_rfl) ?_
    | refine J.seq (J.seq (J.region mixed hI (by kernel_rfl) ?_))
    | refine J.condF rfl ?_
    | refine J.condT rfl ?_
    | refine J.skip ?_)
      refine Plan.int (y := ((i + 1 : Nat) : Int)) (by first | omega | (dsimp only; omega)) ?_
      refine Plan.regroup [diskC β l' f' R, refC γ l' f' R] (by kernel_rfl) hI (key := 1000) rfl (Ent.sep (Ent.refl _) (Ent.sep (Ent.refl _) Ent.emp)) ?_
      exact Nrm.next (i + 1, l', f') ⟨hlt', hst.1, hst.2⟩ (by dsimp only; omega) (by repeat (first | exact Weak.nil | refine Weak.cons rfl (Sub.refl _) ?_))
  · have hie : i = sc.length := by
      dsimp only at hlt; omega
    refine J.exit ?_
    repeat (first
    | refine Plan.move rfl rfl rfl rfl ?_
    | refine Plan.assign rfl rfl rfl rfl ?_
    | refine Plan.skip rfl rfl ?_
    | refine Plan.extract rfl rfl rfl rfl rfl ?_
    | refine Plan.pick rfl rfl rfl rfl rfl ?_
    | refine Plan.lenStr rfl rfl rfl rfl Try.underlying9 ?_
    | refine Plan.lenE rfl rfl rfl rfl Try.underlying27 ?_
    | (refine Plan.ints rfl rfl rfl rfl rfl rfl ?_; (first | refine Plan.int (i64u8 _) ?_ | refine Plan.int (i64r (by omega)) ?_ | refine Plan.int (u64r (by omega)) ?_ | refine Plan.int (u8r (by omega)) ?_ | refine Plan.int (u16r (by omega)) ?_ | refine Plan.int (quoN (by omega)) ?_ | refine Plan.int (remN _ _) ?_ | refine Plan.int (u8N _) ?_ | skip))
    | refine Plan.un rfl rfl rfl rfl rfl ?_
    | refine Plan.lenB rfl rfl rfl rfl (by first | exact Sub.refl _ | exact Sub.own | exact Sub.old (fun _ h => h) | exact Sub.oldOwn (fun _ h => h) | exact Sub.nilRow | exact Sub.ownLower hB | exact Sub.nilOwn (fun _ h => Nat.le_trans hB h.size)) Try.underlying27 ?_
    | (refine Plan.convInt rfl rfl rfl rfl (by first | exact Try.underlying2 | exact Try.underlying3 | exact Try.underlying5 | exact Try.underlying21 | exact Try.underlying25 | exact Try.underlying33 | exact Try.underlying53 | exact Try.underlying89) (by first | exact Try.underlying2 | exact Try.underlying3 | exact Try.underlying5 | exact Try.underlying21 | exact Try.underlying25 | exact Try.underlying33 | exact Try.underlying53 | exact Try.underlying89) ?_; (first | refine Plan.int (i64u8 _) ?_ | refine Plan.int (i64r (by omega)) ?_ | refine Plan.int (u64r (by omega)) ?_ | refine Plan.int (u8r (by omega)) ?_ | refine Plan.int (u16r (by omega)) ?_ | refine Plan.int (quoN (by omega)) ?_ | refine Plan.int (remN _ _) ?_ | refine Plan.int (u8N _) ?_ | skip))
    | refine Plan.nilOk rfl rfl rfl rfl ?_
    | refine Plan.fieldC (m := 0) rfl rfl rfl rfl (by first | exact Try.underlying65 | exact Try.underlying67 | exact Try.underlying73) rfl (by kernel_rfl) (by first | exact (show _ = 0 from rfl) | exact (show _ = 1 from rfl) | exact (show _ = 2 from rfl) | exact (show _ = 3 from rfl) | exact (show _ = 4 from rfl) | exact (show _ = 5 from rfl) | exact (show _ = 6 from rfl) | exact (show _ = 7 from rfl) | exact (show _ = 8 from rfl) | exact (show _ = 9 from rfl) | exact (show _ = 10 from rfl) | exact (show _ = 11 from rfl) | exact (show _ = 12 from rfl) | exact (show _ = 13 from rfl) | exact (show _ = 14 from rfl) | exact (show _ = 15 from rfl) | exact (show _ = 16 from rfl) | exact (show _ = 17 from rfl) | exact (show _ = 18 from rfl) | exact (show _ = 19 from rfl) | exact (show _ = 20 from rfl) | exact (show _ = 21 from rfl) | exact (show _ = 22 from rfl) | exact (show _ = 23 from rfl) | exact (show _ = 24 from rfl) | exact (show _ = 25 from rfl) | exact (show _ = 26 from rfl) | exact (show _ = 27 from rfl) | exact (show _ = 28 from rfl) | exact (show _ = 29 from rfl) | exact (show _ = 30 from rfl) | exact (show _ = 31 from rfl)) ?_
    | refine Plan.loadC (key := 1000) (q := 0) rfl rfl rfl rfl rfl rfl (obj_reads1 rfl) (by first | exact Try.underlying3 | exact Try.underlying9 | exact Try.underlying27 | exact Try.underlying4 | exact Try.underlying5 | exact Try.underlying33) (by rfl) (by decide) ?_
    | refine Plan.loadC (key := 1000) (q := 1) rfl rfl rfl rfl rfl rfl (obj_reads1 rfl) (by first | exact Try.underlying3 | exact Try.underlying9 | exact Try.underlying27 | exact Try.underlying4 | exact Try.underlying5 | exact Try.underlying33) (by rfl) (by decide) ?_
    | refine Plan.loadC (key := 1000) (q := 2) rfl rfl rfl rfl rfl rfl (obj_reads1 rfl) (by first | exact Try.underlying3 | exact Try.underlying9 | exact Try.underlying27 | exact Try.underlying4 | exact Try.underlying5 | exact Try.underlying33) (by rfl) (by decide) ?_
    | refine Plan.eqlPtr rfl rfl rfl rfl (by kernel_rfl) ?_
    | refine Plan.neqPtr rfl rfl rfl rfl (by kernel_rfl) ?_
    | refine J.seq (J.region mixed hI (by kernel_rfl) ?_)
    | refine J.region mixed hI (by kernel_rfl) ?_
    | refine J.seq (J.seq (J.region mixed hI (by kernel_rfl) ?_))
    | refine J.condF rfl ?_
    | refine J.condT rfl ?_
    | refine J.skip ?_)
    refine Plan.callR (key := 1000) (B := 0) (q := 0) rfl rfl rfl (disk_Bytes β l f R (by omega)) Try.func19 rfl rfl (fun _ _ => Nat.zero_le _) (by repeat (first | exact Opnds.nil | refine Opnds.cons rfl (by first | exact Sub.refl _ | exact Sub.own | exact Sub.old (fun _ h => h) | exact Sub.oldOwn (fun _ h => h) | exact Sub.nilRow) ?_)) rfl rfl (by decide) ?_
    refine Plan.convBS (p := l) rfl rfl rfl rfl Sub.own Try.underlying27 Try.underlying9 Try.underlying5 ?_
    repeat (first
    | refine Plan.move rfl rfl rfl rfl ?_
    | refine Plan.assign rfl rfl rfl rfl ?_
    | refine Plan.skip rfl rfl ?_
    | refine Plan.extract rfl rfl rfl rfl rfl ?_
    | refine Plan.pick rfl rfl rfl rfl rfl ?_
    | refine Plan.lenStr rfl rfl rfl rfl Try.underlying9 ?_
    | refine Plan.lenE rfl rfl rfl rfl Try.underlying27 ?_
    | (refine Plan.ints rfl rfl rfl rfl rfl rfl ?_; (first | refine Plan.int (i64u8 _) ?_ | refine Plan.int (i64r (by omega)) ?_ | refine Plan.int (u64r (by omega)) ?_ | refine Plan.int (u8r (by omega)) ?_ | refine Plan.int (u16r (by omega)) ?_ | refine Plan.int (quoN (by omega)) ?_ | refine Plan.int (remN _ _) ?_ | refine Plan.int (u8N _) ?_ | skip))
    | refine Plan.un rfl rfl rfl rfl rfl ?_
    | refine Plan.lenB rfl rfl rfl rfl (by first | exact Sub.refl _ | exact Sub.own | exact Sub.old (fun _ h => h) | exact Sub.oldOwn (fun _ h => h) | exact Sub.nilRow | exact Sub.ownLower hB | exact Sub.nilOwn (fun _ h => Nat.le_trans hB h.size)) Try.underlying27 ?_
    | (refine Plan.convInt rfl rfl rfl rfl (by first | exact Try.underlying2 | exact Try.underlying3 | exact Try.underlying5 | exact Try.underlying21 | exact Try.underlying25 | exact Try.underlying33 | exact Try.underlying53 | exact Try.underlying89) (by first | exact Try.underlying2 | exact Try.underlying3 | exact Try.underlying5 | exact Try.underlying21 | exact Try.underlying25 | exact Try.underlying33 | exact Try.underlying53 | exact Try.underlying89) ?_; (first | refine Plan.int (i64u8 _) ?_ | refine Plan.int (i64r (by omega)) ?_ | refine Plan.int (u64r (by omega)) ?_ | refine Plan.int (u8r (by omega)) ?_ | refine Plan.int (u16r (by omega)) ?_ | refine Plan.int (quoN (by omega)) ?_ | refine Plan.int (remN _ _) ?_ | refine Plan.int (u8N _) ?_ | skip))
    | refine Plan.nilOk rfl rfl rfl rfl ?_
    | refine Plan.fieldC (m := 0) rfl rfl rfl rfl (by first | exact Try.underlying65 | exact Try.underlying67 | exact Try.underlying73) rfl (by kernel_rfl) (by first | exact (show _ = 0 from rfl) | exact (show _ = 1 from rfl) | exact (show _ = 2 from rfl) | exact (show _ = 3 from rfl) | exact (show _ = 4 from rfl) | exact (show _ = 5 from rfl) | exact (show _ = 6 from rfl) | exact (show _ = 7 from rfl) | exact (show _ = 8 from rfl) | exact (show _ = 9 from rfl) | exact (show _ = 10 from rfl) | exact (show _ = 11 from rfl) | exact (show _ = 12 from rfl) | exact (show _ = 13 from rfl) | exact (show _ = 14 from rfl) | exact (show _ = 15 from rfl) | exact (show _ = 16 from rfl) | exact (show _ = 17 from rfl) | exact (show _ = 18 from rfl) | exact (show _ = 19 from rfl) | exact (show _ = 20 from rfl) | exact (show _ = 21 from rfl) | exact (show _ = 22 from rfl) | exact (show _ = 23 from rfl) | exact (show _ = 24 from rfl) | exact (show _ = 25 from rfl) | exact (show _ = 26 from rfl) | exact (show _ = 27 from rfl) | exact (show _ = 28 from rfl) | exact (show _ = 29 from rfl) | exact (show _ = 30 from rfl) | exact (show _ = 31 from rfl)) ?_
    | refine Plan.loadC (key := 1000) (q := 0) rfl rfl rfl rfl rfl rfl (obj_reads1 rfl) (by first | exact Try.underlying3 | exact Try.underlying9 | exact Try.underlying27 | exact Try.underlying4 | exact Try.underlying5 | exact Try.underlying33) (by rfl) (by decide) ?_
    | refine Plan.loadC (key := 1000) (q := 1) rfl rfl rfl rfl rfl rfl (obj_reads1 rfl) (by first | exact Try.underlying3 | exact Try.underlying9 | exact Try.underlying27 | exact Try.underlying4 | exact Try.underlying5 | exact Try.underlying33) (by rfl) (by decide) ?_
    | refine Plan.loadC (key := 1000) (q := 2) rfl rfl rfl rfl rfl rfl (obj_reads1 rfl) (by first | exact Try.underlying3 | exact Try.underlying9 | exact Try.underlying27 | exact Try.underlying4 | exact Try.underlying5 | exact Try.underlying33) (by rfl) (by decide) ?_
    | refine Plan.eqlPtr rfl rfl rfl rfl (by kernel_rfl) ?_
    | refine Plan.neqPtr rfl rfl rfl rfl (by kernel_rfl) ?_
    | refine J.seq (J.region mixed hI (by kernel_rfl) ?_)
    | refine J.region mixed hI (by kernel_rfl) ?_
    | refine J.seq (J.seq (J.region mixed hI (by kernel_rfl) ?_))
    | refine J.condF rfl ?_
    | refine J.condT rfl ?_
    | refine J.skip ?_)
    refine Plan.strs rfl rfl rfl rfl rfl rfl ?_
    refine Plan.boolv (y := true) (by simp) ?_
    repeat (first
    | refine Plan.move rfl rfl rfl rfl ?_
    | refine Plan.assign rfl rfl rfl rfl ?_
    | refine Plan.skip rfl rfl ?_
    | refine Plan.extract rfl rfl rfl rfl rfl ?_
    | refine Plan.pick rfl rfl rfl rfl rfl ?_
    | refine Plan.lenStr rfl rfl rfl rfl Try.underlying9 ?_
    | refine Plan.lenE rfl rfl rfl rfl Try.underlying27 ?_
    | (refine Plan.ints rfl rfl rfl rfl rfl rfl ?_; (first | refine Plan.int (i64u8 _) ?_ | refine Plan.int (i64r (by omega)) ?_ | refine Plan.int (u64r (by omega)) ?_ | refine Plan.int (u8r (by omega)) ?_ | refine Plan.int (u16r (by omega)) ?_ | refine Plan.int (quoN (by omega)) ?_ | refine Plan.int (remN _ _) ?_ | refine Plan.int (u8N _) ?_ | skip))
    | refine Plan.un rfl rfl rfl rfl rfl ?_
    | refine Plan.lenB rfl rfl rfl rfl (by first | exact Sub.refl _ | exact Sub.own | exact Sub.old (fun _ h => h) | exact Sub.oldOwn (fun _ h => h) | exact Sub.nilRow | exact Sub.ownLower hB | exact Sub.nilOwn (fun _ h => Nat.le_trans hB h.size)) Try.underlying27 ?_
    | (refine Plan.convInt rfl rfl rfl rfl (by first | exact Try.underlying2 | exact Try.underlying3 | exact Try.underlying5 | exact Try.underlying21 | exact Try.underlying25 | exact Try.underlying33 | exact Try.underlying53 | exact Try.underlying89) (by first | exact Try.underlying2 | exact Try.underlying3 | exact Try.underlying5 | exact Try.underlying21 | exact Try.underlying25 | exact Try.underlying33 | exact Try.underlying53 | exact Try.underlying89) ?_; (first | refine Plan.int (i64u8 _) ?_ | refine Plan.int (i64r (by omega)) ?_ | refine Plan.int (u64r (by omega)) ?_ | refine Plan.int (u8r (by omega)) ?_ | refine Plan.int (u16r (by omega)) ?_ | refine Plan.int (quoN (by omega)) ?_ | refine Plan.int (remN _ _) ?_ | refine Plan.int (u8N _) ?_ | skip))
    | refine Plan.nilOk rfl rfl rfl rfl ?_
    | refine Plan.fieldC (m := 0) rfl rfl rfl rfl (by first | exact Try.underlying65 | exact Try.underlying67 | exact Try.underlying73) rfl (by kernel_rfl) (by first | exact (show _ = 0 from rfl) | exact (show _ = 1 from rfl) | exact (show _ = 2 from rfl) | exact (show _ = 3 from rfl) | exact (show _ = 4 from rfl) | exact (show _ = 5 from rfl) | exact (show _ = 6 from rfl) | exact (show _ = 7 from rfl) | exact (show _ = 8 from rfl) | exact (show _ = 9 from rfl) | exact (show _ = 10 from rfl) | exact (show _ = 11 from rfl) | exact (show _ = 12 from rfl) | exact (show _ = 13 from rfl) | exact (show _ = 14 from rfl) | exact (show _ = 15 from rfl) | exact (show _ = 16 from rfl) | exact (show _ = 17 from rfl) | exact (show _ = 18 from rfl) | exact (show _ = 19 from rfl) | exact (show _ = 20 from rfl) | exact (show _ = 21 from rfl) | exact (show _ = 22 from rfl) | exact (show _ = 23 from rfl) | exact (show _ = 24 from rfl) | exact (show _ = 25 from rfl) | exact (show _ = 26 from rfl) | exact (show _ = 27 from rfl) | exact (show _ = 28 from rfl) | exact (show _ = 29 from rfl) | exact (show _ = 30 from rfl) | exact (show _ = 31 from rfl)) ?_
    | refine Plan.loadC (key := 1000) (q := 0) rfl rfl rfl rfl rfl rfl (obj_reads1 rfl) (by first | exact Try.underlying3 | exact Try.underlying9 | exact Try.underlying27 | exact Try.underlying4 | exact Try.underlying5 | exact Try.underlying33) (by rfl) (by decide) ?_
    | refine Plan.loadC (key := 1000) (q := 1) rfl rfl rfl rfl rfl rfl (obj_reads1 rfl) (by first | exact Try.underlying3 | exact Try.underlying9 | exact Try.underlying27 | exact Try.underlying4 | exact Try.underlying5 | exact Try.underlying33) (by rfl) (by decide) ?_
    | refine Plan.loadC (key := 1000) (q := 2) rfl rfl rfl rfl rfl rfl (obj_reads1 rfl) (by first | exact Try.underlying3 | exact Try.underlying9 | exact Try.underlying27 | exact Try.underlying4 | exact Try.underlying5 | exact Try.underlying33) (by rfl) (by decide) ?_
    | refine Plan.eqlPtr rfl rfl rfl rfl (by kernel_rfl) ?_
    | refine Plan.neqPtr rfl rfl rfl rfl (by kernel_rfl) ?_
    | refine J.seq (J.region mixed hI (by kernel_rfl) ?_)
    | refine J.region mixed hI (by kernel_rfl) ?_
    | refine J.seq (J.seq (J.region mixed hI (by kernel_rfl) ?_))
    | refine J.condF rfl ?_
    | refine J.condT rfl ?_
    | refine J.skip ?_)
    exact J.ret (Nrm.ret1 rfl (fun _ h => h) rfl fun B _ => Sub.refl _)

theorem lawPlaysC (room : Int) (ls : List (List Value)) (hroom : in64 room) (hl : ls.length ≤ 9223372036854775807) (hc : ∀ c ∈ ls, CellsOk kdsOp c) :
    Spc Try.prog 13 [.ex (.int .i64 room), row 5 ls.flatten] fun _ => .ex (.bool true) := by
  obtain ⟨sc, h1, h2, h3⟩ := ops_of ls hc
  rw [h2]
  exact lawPlays room sc hroom (by omega) h3
end Go.Proofs.Ytdfdhhepbkejpaa
