/-
  EventRights: what can be, what adds, what covers and what is later: as the document says.
-/
import Derived.Test.YthjneijkapopoaaEvAwake
namespace Go.Proofs.Ythjneijkapopoaa
open Go.Free Go.RowKit Go.Proofs
set_option maxHeartbeats 4000000

theorem eventRightsE (a b : EvV) (k : Int) (ha : a.okV) (hk : in64 k) : Spc Try.prog 9 [.ex (aggE a), .ex (aggE b), .ex (vi k)] fun _ => .ex (.bool true) := by
  refine Spc.intro Try.func9 rfl (Nat.le_of_ble_eq_true rfl) fun w0 => ?_
  have hI := hIb w0
  have hA := Own.below w0
  have k1 := right_fn a ha
  have k2 := refRight_fn a ha
  have k3 := adds_fn k
  have k4 := refAdds_fn k
  have k5 := covers_fn b a
  have k6 := refCovers_fn b a
  have k7 := later_fn b a
  have k8 := ref_Later b a
  generalize decide (rightP a) = x1 at k1 k2
  generalize decide (addP k) = x2 at k3 k4
  generalize decide (hasP b.d a.r a.n) = x3 at k5 k6
  generalize later b a = x4 at k7 k8
  rcases x1 with _ | _
  all_goals rcases x2 with _ | _
  all_goals rcases x3 with _ | _
  all_goals rcases x4 with _ | _
  all_goals
    refine J.heap0 1000 (newB w0) ?_
    repeat (first
    | refine Plan.move rfl rfl rfl rfl ?_
    | refine Plan.assign rfl rfl rfl rfl ?_
    | refine Plan.skip rfl rfl ?_
    | refine Plan.extract rfl rfl rfl rfl rfl ?_
    | refine Plan.pick rfl rfl rfl rfl rfl ?_
    | refine Plan.lenStr rfl rfl rfl rfl Try.underlying9 ?_
    | refine Plan.lenE rfl rfl rfl rfl Try.underlying40 ?_
    | (refine Plan.ints rfl rfl rfl rfl rfl rfl ?_; (first | refine Plan.int (i64u8 _) ?_ | refine Plan.int (i64r (by omega)) ?_ | refine Plan.int (u64r (by omega)) ?_ | refine Plan.int (u8r (by omega)) ?_ | refine Plan.int (u16r (by omega)) ?_ | refine Plan.int (quoN (by omega)) ?_ | refine Plan.int (remN _ _) ?_ | refine Plan.int (u8N _) ?_ | skip))
    | refine Plan.un rfl rfl rfl rfl rfl ?_
    | refine Plan.lenB rfl rfl rfl rfl (by first | exact Sub.refl _ | exact Sub.own | exact Sub.old (fun _ h => h) | exact Sub.oldOwn (fun _ h => h) | exact Sub.nilRow | exact Sub.ownLower hB | exact Sub.nilOwn (fun _ h => Nat.le_trans hB h.size)) Try.underlying40 ?_
    | (refine Plan.convInt rfl rfl rfl rfl (by first | exact Try.underlying2 | exact Try.underlying3 | exact Try.underlying5 | exact Try.underlying21 | exact Try.underlying37 | exact Try.underlying41 | exact Try.underlying59 | exact Try.underlying102) (by first | exact Try.underlying2 | exact Try.underlying3 | exact Try.underlying5 | exact Try.underlying21 | exact Try.underlying37 | exact Try.underlying41 | exact Try.underlying59 | exact Try.underlying102) ?_; (first | refine Plan.int (i64u8 _) ?_ | refine Plan.int (i64r (by omega)) ?_ | refine Plan.int (u64r (by omega)) ?_ | refine Plan.int (u8r (by omega)) ?_ | refine Plan.int (u16r (by omega)) ?_ | refine Plan.int (quoN (by omega)) ?_ | refine Plan.int (remN _ _) ?_ | refine Plan.int (u8N _) ?_ | skip))
    | refine Plan.nilOk rfl rfl rfl rfl ?_
    | refine Plan.fieldC rfl rfl rfl rfl (by first | exact Try.underlying25 | exact Try.underlying29 | exact Try.underlying31 | exact Try.underlying61 | exact Try.underlying75 | exact Try.underlying80) rfl (by kernel_rfl) (by first | exact (rfl : _ = 0) | exact (rfl : _ = 1) | exact (rfl : _ = 2) | exact (rfl : _ = 3) | exact (rfl : _ = 4) | exact (rfl : _ = 5) | exact (rfl : _ = 6) | exact (rfl : _ = 7) | exact (rfl : _ = 8) | exact (rfl : _ = 9) | exact (rfl : _ = 10) | exact (rfl : _ = 11) | exact (rfl : _ = 12) | exact (rfl : _ = 13) | exact (rfl : _ = 14) | exact (rfl : _ = 15) | exact (rfl : _ = 16) | exact (rfl : _ = 17) | exact (rfl : _ = 18) | exact (rfl : _ = 19) | exact (rfl : _ = 20) | exact (rfl : _ = 21) | exact (rfl : _ = 22) | exact (rfl : _ = 23) | exact (rfl : _ = 24) | exact (rfl : _ = 25)) ?_
    | refine Plan.loadC (key := 1000) (q := 0) rfl rfl rfl rfl rfl rfl (obj_reads1 rfl) (by first | exact Try.underlying3 | exact Try.underlying9 | exact Try.underlying40 | exact Try.underlying4 | exact Try.underlying5 | exact Try.underlying41 | exact Try.underlying22 | exact Try.underlying57) (by rfl) (by decide) ?_
    | refine Plan.loadC (key := 1000) (q := 1) rfl rfl rfl rfl rfl rfl (obj_reads1 rfl) (by first | exact Try.underlying3 | exact Try.underlying9 | exact Try.underlying40 | exact Try.underlying4 | exact Try.underlying5 | exact Try.underlying41 | exact Try.underlying22 | exact Try.underlying57) (by rfl) (by decide) ?_
    | refine Plan.loadC (key := 1000) (q := 2) rfl rfl rfl rfl rfl rfl (obj_reads1 rfl) (by first | exact Try.underlying3 | exact Try.underlying9 | exact Try.underlying40 | exact Try.underlying4 | exact Try.underlying5 | exact Try.underlying41 | exact Try.underlying22 | exact Try.underlying57) (by rfl) (by decide) ?_
    | refine Plan.eqlPtr rfl rfl rfl rfl (by kernel_rfl) ?_
    | refine Plan.neqPtr rfl rfl rfl rfl (by kernel_rfl) ?_
    | refine J.seq (J.region mixed hI (by kernel_rfl) ?_)
    | refine J.region mixed hI (by kernel_rfl) ?_
    | refine J.seq (J.seq (J.region mixed hI (by kernel_rfl) ?_))
    | refine J.condF rfl ?_
    | refine J.condT rfl ?_
    | refine J.skip ?_)
    refine Plan.boxC (key := 1000) rfl rfl rfl (by intro _ e; cases e; decide) rfl rfl hA fun α => ?_
    refine Plan.boxC (key := 1000) rfl rfl rfl (by intro _ e; cases e; decide) rfl rfl hA fun β => ?_
    repeat (first
    | refine Plan.move rfl rfl rfl rfl ?_
    | refine Plan.assign rfl rfl rfl rfl ?_
    | refine Plan.skip rfl rfl ?_
    | refine Plan.extract rfl rfl rfl rfl rfl ?_
    | refine Plan.pick rfl rfl rfl rfl rfl ?_
    | refine Plan.lenStr rfl rfl rfl rfl Try.underlying9 ?_
    | refine Plan.lenE rfl rfl rfl rfl Try.underlying40 ?_
    | (refine Plan.ints rfl rfl rfl rfl rfl rfl ?_; (first | refine Plan.int (i64u8 _) ?_ | refine Plan.int (i64r (by omega)) ?_ | refine Plan.int (u64r (by omega)) ?_ | refine Plan.int (u8r (by omega)) ?_ | refine Plan.int (u16r (by omega)) ?_ | refine Plan.int (quoN (by omega)) ?_ | refine Plan.int (remN _ _) ?_ | refine Plan.int (u8N _) ?_ | skip))
    | refine Plan.un rfl rfl rfl rfl rfl ?_
    | refine Plan.lenB rfl rfl rfl rfl (by first | exact Sub.refl _ | exact Sub.own | exact Sub.old (fun _ h => h) | exact Sub.oldOwn (fun _ h => h) | exact Sub.nilRow | exact Sub.ownLower hB | exact Sub.nilOwn (fun _ h => Nat.le_trans hB h.size)) Try.underlying40 ?_
    | (refine Plan.convInt rfl rfl rfl rfl (by first | exact Try.underlying2 | exact Try.underlying3 | exact Try.underlying5 | exact Try.underlying21 | exact Try.underlying37 | exact Try.underlying41 | exact Try.underlying59 | exact Try.underlying102) (by first | exact Try.underlying2 | exact Try.underlying3 | exact Try.underlying5 | exact Try.underlying21 | exact Try.underlying37 | exact Try.underlying41 | exact Try.underlying59 | exact Try.underlying102) ?_; (first | refine Plan.int (i64u8 _) ?_ | refine Plan.int (i64r (by omega)) ?_ | refine Plan.int (u64r (by omega)) ?_ | refine Plan.int (u8r (by omega)) ?_ | refine Plan.int (u16r (by omega)) ?_ | refine Plan.int (quoN (by omega)) ?_ | refine Plan.int (remN _ _) ?_ | refine Plan.int (u8N _) ?_ | skip))
    | refine Plan.nilOk rfl rfl rfl rfl ?_
    | refine Plan.fieldC rfl rfl rfl rfl (by first | exact Try.underlying25 | exact Try.underlying29 | exact Try.underlying31 | exact Try.underlying61 | exact Try.underlying75 | exact Try.underlying80) rfl (by kernel_rfl) (by first | exact (rfl : _ = 0) | exact (rfl : _ = 1) | exact (rfl : _ = 2) | exact (rfl : _ = 3) | exact (rfl : _ = 4) | exact (rfl : _ = 5) | exact (rfl : _ = 6) | exact (rfl : _ = 7) | exact (rfl : _ = 8) | exact (rfl : _ = 9) | exact (rfl : _ = 10) | exact (rfl : _ = 11) | exact (rfl : _ = 12) | exact (rfl : _ = 13) | exact (rfl : _ = 14) | exact (rfl : _ = 15) | exact (rfl : _ = 16) | exact (rfl : _ = 17) | exact (rfl : _ = 18) | exact (rfl : _ = 19) | exact (rfl : _ = 20) | exact (rfl : _ = 21) | exact (rfl : _ = 22) | exact (rfl : _ = 23) | exact (rfl : _ = 24) | exact (rfl : _ = 25)) ?_
    | refine Plan.loadC (key := 1000) (q := 0) rfl rfl rfl rfl rfl rfl (obj_reads1 rfl) (by first | exact Try.underlying3 | exact Try.underlying9 | exact Try.underlying40 | exact Try.underlying4 | exact Try.underlying5 | exact Try.underlying41 | exact Try.underlying22 | exact Try.underlying57) (by rfl) (by decide) ?_
    | refine Plan.loadC (key := 1000) (q := 1) rfl rfl rfl rfl rfl rfl (obj_reads1 rfl) (by first | exact Try.underlying3 | exact Try.underlying9 | exact Try.underlying40 | exact Try.underlying4 | exact Try.underlying5 | exact Try.underlying41 | exact Try.underlying22 | exact Try.underlying57) (by rfl) (by decide) ?_
    | refine Plan.loadC (key := 1000) (q := 2) rfl rfl rfl rfl rfl rfl (obj_reads1 rfl) (by first | exact Try.underlying3 | exact Try.underlying9 | exact Try.underlying40 | exact Try.underlying4 | exact Try.underlying5 | exact Try.underlying41 | exact Try.underlying22 | exact Try.underlying57) (by rfl) (by decide) ?_
    | refine Plan.eqlPtr rfl rfl rfl rfl (by kernel_rfl) ?_
    | refine Plan.neqPtr rfl rfl rfl rfl (by kernel_rfl) ?_
    | refine J.seq (J.region mixed hI (by kernel_rfl) ?_)
    | refine J.region mixed hI (by kernel_rfl) ?_
    | refine J.seq (J.seq (J.region mixed hI (by kernel_rfl) ?_))
    | refine J.condF rfl ?_
    | refine J.condT rfl ?_
    | refine J.skip ?_)
    refine Plan.call (B := w0.heap.size) rfl rfl rfl (awakeE_fn) Try.func18 rfl rfl (hBb w0) (by repeat (first | exact Opnds.nil | refine Opnds.cons rfl (by first | exact Sub.refl _ | exact Sub.own | exact Sub.old (fun _ h => h) | exact Sub.oldOwn (fun _ h => h) | exact Sub.nilRow | exact Sub.exIn hbe) ?_)) ?_
    repeat (first
    | refine Plan.move rfl rfl rfl rfl ?_
    | refine Plan.assign rfl rfl rfl rfl ?_
    | refine Plan.skip rfl rfl ?_
    | refine Plan.extract rfl rfl rfl rfl rfl ?_
    | refine Plan.pick rfl rfl rfl rfl rfl ?_
    | refine Plan.lenStr rfl rfl rfl rfl Try.underlying9 ?_
    | refine Plan.lenE rfl rfl rfl rfl Try.underlying40 ?_
    | (refine Plan.ints rfl rfl rfl rfl rfl rfl ?_; (first | refine Plan.int (i64u8 _) ?_ | refine Plan.int (i64r (by omega)) ?_ | refine Plan.int (u64r (by omega)) ?_ | refine Plan.int (u8r (by omega)) ?_ | refine Plan.int (u16r (by omega)) ?_ | refine Plan.int (quoN (by omega)) ?_ | refine Plan.int (remN _ _) ?_ | refine Plan.int (u8N _) ?_ | skip))
    | refine Plan.un rfl rfl rfl rfl rfl ?_
    | refine Plan.lenB rfl rfl rfl rfl (by first | exact Sub.refl _ | exact Sub.own | exact Sub.old (fun _ h => h) | exact Sub.oldOwn (fun _ h => h) | exact Sub.nilRow | exact Sub.ownLower hB | exact Sub.nilOwn (fun _ h => Nat.le_trans hB h.size)) Try.underlying40 ?_
    | (refine Plan.convInt rfl rfl rfl rfl (by first | exact Try.underlying2 | exact Try.underlying3 | exact Try.underlying5 | exact Try.underlying21 | exact Try.underlying37 | exact Try.underlying41 | exact Try.underlying59 | exact Try.underlying102) (by first | exact Try.underlying2 | exact Try.underlying3 | exact Try.underlying5 | exact Try.underlying21 | exact Try.underlying37 | exact Try.underlying41 | exact Try.underlying59 | exact Try.underlying102) ?_; (first | refine Plan.int (i64u8 _) ?_ | refine Plan.int (i64r (by omega)) ?_ | refine Plan.int (u64r (by omega)) ?_ | refine Plan.int (u8r (by omega)) ?_ | refine Plan.int (u16r (by omega)) ?_ | refine Plan.int (quoN (by omega)) ?_ | refine Plan.int (remN _ _) ?_ | refine Plan.int (u8N _) ?_ | skip))
    | refine Plan.nilOk rfl rfl rfl rfl ?_
    | refine Plan.fieldC rfl rfl rfl rfl (by first | exact Try.underlying25 | exact Try.underlying29 | exact Try.underlying31 | exact Try.underlying61 | exact Try.underlying75 | exact Try.underlying80) rfl (by kernel_rfl) (by first | exact (rfl : _ = 0) | exact (rfl : _ = 1) | exact (rfl : _ = 2) | exact (rfl : _ = 3) | exact (rfl : _ = 4) | exact (rfl : _ = 5) | exact (rfl : _ = 6) | exact (rfl : _ = 7) | exact (rfl : _ = 8) | exact (rfl : _ = 9) | exact (rfl : _ = 10) | exact (rfl : _ = 11) | exact (rfl : _ = 12) | exact (rfl : _ = 13) | exact (rfl : _ = 14) | exact (rfl : _ = 15) | exact (rfl : _ = 16) | exact (rfl : _ = 17) | exact (rfl : _ = 18) | exact (rfl : _ = 19) | exact (rfl : _ = 20) | exact (rfl : _ = 21) | exact (rfl : _ = 22) | exact (rfl : _ = 23) | exact (rfl : _ = 24) | exact (rfl : _ = 25)) ?_
    | refine Plan.loadC (key := 1000) (q := 0) rfl rfl rfl rfl rfl rfl (obj_reads1 rfl) (by first | exact Try.underlying3 | exact Try.underlying9 | exact Try.underlying40 | exact Try.underlying4 | exact Try.underlying5 | exact Try.underlying41 | exact Try.underlying22 | exact Try.underlying57) (by rfl) (by decide) ?_
    | refine Plan.loadC (key := 1000) (q := 1) rfl rfl rfl rfl rfl rfl (obj_reads1 rfl) (by first | exact Try.underlying3 | exact Try.underlying9 | exact Try.underlying40 | exact Try.underlying4 | exact Try.underlying5 | exact Try.underlying41 | exact Try.underlying22 | exact Try.underlying57) (by rfl) (by decide) ?_
    | refine Plan.loadC (key := 1000) (q := 2) rfl rfl rfl rfl rfl rfl (obj_reads1 rfl) (by first | exact Try.underlying3 | exact Try.underlying9 | exact Try.underlying40 | exact Try.underlying4 | exact Try.underlying5 | exact Try.underlying41 | exact Try.underlying22 | exact Try.underlying57) (by rfl) (by decide) ?_
    | refine Plan.eqlPtr rfl rfl rfl rfl (by kernel_rfl) ?_
    | refine Plan.neqPtr rfl rfl rfl rfl (by kernel_rfl) ?_
    | refine J.seq (J.region mixed hI (by kernel_rfl) ?_)
    | refine J.region mixed hI (by kernel_rfl) ?_
    | refine J.seq (J.seq (J.region mixed hI (by kernel_rfl) ?_))
    | refine J.condF rfl ?_
    | refine J.condT rfl ?_
    | refine J.skip ?_)
    repeat (first
      | refine Plan.move rfl rfl rfl rfl ?_
      | refine Plan.assign rfl rfl rfl rfl ?_
      | refine Plan.skip rfl rfl ?_
      | refine Plan.pick rfl rfl rfl rfl rfl ?_
      | refine Plan.un rfl rfl rfl rfl rfl ?_
      | refine Plan.bools rfl rfl rfl rfl rfl Try.underlying4 (.inl ⟨rfl, rfl⟩) ?_
      | refine Plan.bools rfl rfl rfl rfl rfl Try.underlying4 (.inr ⟨rfl, rfl⟩) ?_
      | refine Plan.fieldC rfl rfl rfl rfl (by first | exact Try.underlying25 | exact Try.underlying29 | exact Try.underlying31 | exact Try.underlying61 | exact Try.underlying75 | exact Try.underlying80) rfl (by kernel_rfl) (by first | exact (rfl : _ = 0) | exact (rfl : _ = 1) | exact (rfl : _ = 2) | exact (rfl : _ = 3) | exact (rfl : _ = 4) | exact (rfl : _ = 5) | exact (rfl : _ = 6) | exact (rfl : _ = 7) | exact (rfl : _ = 8) | exact (rfl : _ = 9) | exact (rfl : _ = 10) | exact (rfl : _ = 11) | exact (rfl : _ = 12) | exact (rfl : _ = 13) | exact (rfl : _ = 14) | exact (rfl : _ = 15) | exact (rfl : _ = 16) | exact (rfl : _ = 17) | exact (rfl : _ = 18) | exact (rfl : _ = 19) | exact (rfl : _ = 20) | exact (rfl : _ = 21) | exact (rfl : _ = 22) | exact (rfl : _ = 23) | exact (rfl : _ = 24) | exact (rfl : _ = 25)) ?_
      | refine Plan.loadAggC (key := 1000) (q := 0) (vs := a.enc) rfl rfl rfl rfl rfl rfl obj_whole Try.underlying31 rfl (by rw [encE]; kernel_rfl) (by decide) ?_
      | refine Plan.loadAggC (key := 1000) (q := 1) (vs := b.enc) rfl rfl rfl rfl rfl rfl obj_whole Try.underlying31 rfl (by rw [encE]; kernel_rfl) (by decide) ?_
      | refine Plan.call (B := w0.heap.size) rfl rfl rfl (k1) Try.func22 rfl rfl (hBb w0) (by repeat (first | exact Opnds.nil | refine Opnds.cons rfl (by first | exact Sub.refl _ | exact Sub.own | exact Sub.old (fun _ h => h) | exact Sub.oldOwn (fun _ h => h) | exact Sub.nilRow | exact Sub.exIn hbe) ?_)) ?_
      | refine Plan.call (B := w0.heap.size) rfl rfl rfl (k2) Try.func23 rfl rfl (hBb w0) (by repeat (first | exact Opnds.nil | refine Opnds.cons rfl (by first | exact Sub.refl _ | exact Sub.own | exact Sub.old (fun _ h => h) | exact Sub.oldOwn (fun _ h => h) | exact Sub.nilRow | exact Sub.exIn hbe) ?_)) ?_
      | refine Plan.call (B := w0.heap.size) rfl rfl rfl (k3) Try.func24 rfl rfl (hBb w0) (by repeat (first | exact Opnds.nil | refine Opnds.cons rfl (by first | exact Sub.refl _ | exact Sub.own | exact Sub.old (fun _ h => h) | exact Sub.oldOwn (fun _ h => h) | exact Sub.nilRow | exact Sub.exIn hbe) ?_)) ?_
      | refine Plan.call (B := w0.heap.size) rfl rfl rfl (k4) Try.func25 rfl rfl (hBb w0) (by repeat (first | exact Opnds.nil | refine Opnds.cons rfl (by first | exact Sub.refl _ | exact Sub.own | exact Sub.old (fun _ h => h) | exact Sub.oldOwn (fun _ h => h) | exact Sub.nilRow | exact Sub.exIn hbe) ?_)) ?_
      | refine Plan.call (B := w0.heap.size) rfl rfl rfl (k5) Try.func26 rfl rfl (hBb w0) (by repeat (first | exact Opnds.nil | refine Opnds.cons rfl (by first | exact Sub.refl _ | exact Sub.own | exact Sub.old (fun _ h => h) | exact Sub.oldOwn (fun _ h => h) | exact Sub.nilRow | exact Sub.exIn hbe) ?_)) ?_
      | refine Plan.call (B := w0.heap.size) rfl rfl rfl (k6) Try.func27 rfl rfl (hBb w0) (by repeat (first | exact Opnds.nil | refine Opnds.cons rfl (by first | exact Sub.refl _ | exact Sub.own | exact Sub.old (fun _ h => h) | exact Sub.oldOwn (fun _ h => h) | exact Sub.nilRow | exact Sub.exIn hbe) ?_)) ?_
      | refine Plan.call (B := w0.heap.size) rfl rfl rfl (k7) Try.func21 rfl rfl (hBb w0) (by repeat (first | exact Opnds.nil | refine Opnds.cons rfl (by first | exact Sub.refl _ | exact Sub.own | exact Sub.old (fun _ h => h) | exact Sub.oldOwn (fun _ h => h) | exact Sub.nilRow | exact Sub.exIn hbe) ?_)) ?_
      | refine Plan.call (B := w0.heap.size) rfl rfl rfl (k8) Try.func28 rfl rfl (hBb w0) (by repeat (first | exact Opnds.nil | refine Opnds.cons rfl (by first | exact Sub.refl _ | exact Sub.own | exact Sub.old (fun _ h => h) | exact Sub.oldOwn (fun _ h => h) | exact Sub.nilRow | exact Sub.exIn hbe) ?_)) ?_
      | refine J.seq (J.region mixed hI (by kernel_rfl) ?_)
      | refine J.region mixed hI (by kernel_rfl) ?_
      | refine J.seq (J.seq (J.region mixed hI (by kernel_rfl) ?_))
      | refine J.condF rfl ?_
      | refine J.condT rfl ?_
      | refine J.skip ?_)
    exact J.ret (Nrm.ret1 rfl (fun _ h => h) rfl fun B _ => Sub.refl _)
end Go.Proofs.Ythjneijkapopoaa
