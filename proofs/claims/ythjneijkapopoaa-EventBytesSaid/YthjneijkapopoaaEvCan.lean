/-
  Events: what operations of a kind use, and whether an operation can be.
-/
import Derived.Test.YthjneijkapopoaaEvFns
import Derived.Test.YthjneijkapopoaaFreeCell
namespace Go.Proofs.Ythjneijkapopoaa
open Go.Free Go.RowKit Go.Proofs
set_option maxHeartbeats 4000000

def partsV (k : Int) : List Value := [.bool (decide (fieldP k)), .bool (decide (valueP k)), .bool (decide (numP k)), .bool (decide (refP k))]
theorem parts_of {k : Int} {b1 b2 b3 b4 : Bool} (h1 : b1 = decide (fieldP k)) (h2 : b2 = decide (valueP k)) (h3 : b3 = decide (numP k)) (h4 : b4 = decide (refP k)) : partsV k = [.bool b1, .bool b2, .bool b3, .bool b4] := by subst h1 h2 h3 h4; rfl
theorem uses_tup {k : Int} {vs : List Value} {b : Bool} (h1 : partsV k = vs) (h2 : b = decide (kindP k)) : Fa.tup [.ex (.agg (partsV k).toArray), .ex (.bool (decide (kindP k)))] = Fa.tup [.ex (.agg vs.toArray), .ex (.bool b)] := by rw [h1, h2]
theorem uses_fn (k : Int) : Spc Try.prog 32 [.ex (vi k)] fun _ => .tup [.ex (.agg (partsV k).toArray), .ex (.bool (decide (kindP k)))] := by
  refine Spc.intro Try.func32 rfl (Nat.le_of_ble_eq_true rfl) fun w0 => ?_
  have hI := hIb w0
  have hA := Own.below w0
  refine J.heap0 1000 (newB w0) ?_
  repeat (first
    | refine Plan.move rfl rfl rfl rfl ?_
    | refine Plan.assign rfl rfl rfl rfl ?_
    | refine Plan.skip rfl rfl ?_
    | refine Plan.extract rfl rfl rfl rfl rfl ?_
    | refine Plan.pick rfl rfl rfl rfl rfl ?_
    | refine Plan.lenStr rfl rfl rfl rfl Try.underlying9 ?_
    | refine Plan.lenE rfl rfl rfl rfl Try.underlying40 ?_
    | (refine Plan.ints rfl rfl rfl rfl rfl rfl ?_; (first | refine Plan.int (i64u8 _) ?_ | refine Plan.int (i64r (by omega)) ?_ | refine Plan.int (u64r (by omega)) ?_ | refine Plan.int (u8r (by omega)) ?_ | refine Plan.int (u16r (by omega)) ?_ | refine Plan.int (quoN (by omega)) ?_ | refine Plan.int (remN _ _) ?_ | refine Plan.int (u8N _) ?_ | skip))
    | refine Plan.un rfl rfl rfl rfl rfl ?_
    | refine Plan.lenB rfl rfl rfl rfl (by first | exact Sub.refl _ | exact Sub.own | exact Sub.old (fun _ h => h) | exact Sub.oldOwn (fun _ h => h) | exact Sub.nilRow | exact Sub.ownLower hB | exact Sub.nilOwn (fun _ h => Nat.le_trans hB h.size)) Try.underlying40 ?_
    | (refine Plan.convInt rfl rfl rfl rfl (by first | exact Try.underlying2 | exact Try.underlying3 | exact Try.underlying5 | exact Try.underlying21 | exact Try.underlying37 | exact Try.underlying41 | exact Try.underlying59 | exact Try.underlying102) (by first | exact Try.underlying2 | exact Try.underlying3 | exact Try.underlying5 | exact Try.underlying21 | exact Try.underlying37 | exact Try.underlying41 | exact Try.underlying59 | exact Try.underlying102) ?_; (first | refine Plan.int (i64u8 _) ?_ | refine Plan.int (i64r (by omega)) ?_ | refine Plan.int (u64r (by omega)) ?_ | refine Plan.int (u8r (by omega)) ?_ | refine Plan.int (u16r (by omega)) ?_ | refine Plan.int (quoN (by omega)) ?_ | refine Plan.int (remN _ _) ?_ | refine Plan.int (u8N _) ?_ | skip))
    | refine Plan.nilOk rfl rfl rfl rfl ?_
    | refine Plan.fieldC rfl rfl rfl rfl (by first | exact Try.underlying25 | exact Try.underlying29 | exact Try.underlying31 | exact Try.underlying61 | exact Try.underlying75 | exact Try.underlying80) rfl (by kernel_rfl) (by first | exact (rfl : _ = 0) | exact (rfl : _ = 1) | exact (rfl : _ = 2) | exact (rfl : _ = 3) | exact (rfl : _ = 4) | exact (rfl : _ = 5) | exact (rfl : _ = 6) | exact (rfl : _ = 7) | exact (rfl : _ = 8) | exact (rfl : _ = 9) | exact (rfl : _ = 10) | exact (rfl : _ = 11) | exact (rfl : _ = 12) | exact (rfl : _ = 13) | exact (rfl : _ = 14) | exact (rfl : _ = 15) | exact (rfl : _ = 16) | exact (rfl : _ = 17) | exact (rfl : _ = 18) | exact (rfl : _ = 19) | exact (rfl : _ = 20) | exact (rfl : _ = 21) | exact (rfl : _ = 22) | exact (rfl : _ = 23) | exact (rfl : _ = 24) | exact (rfl : _ = 25)) ?_
    | refine Plan.loadC (key := 1000) (q := 0) rfl rfl rfl rfl rfl rfl (obj_reads1 rfl) (by first | exact Try.underlying3 | exact Try.underlying9 | exact Try.underlying40 | exact Try.underlying4 | exact Try.underlying5 | exact Try.underlying41 | exact Try.underlying22 | exact Try.underlying57) (by rfl) (by decide) ?_
    | refine Plan.loadC (key := 1000) (q := 1) rfl rfl rfl rfl rfl rfl (obj_reads1 rfl) (by first | exact Try.underlying3 | exact Try.underlying9 | exact Try.underlying40 | exact Try.underlying4 | exact Try.underlying5 | exact Try.underlying41 | exact Try.underlying22 | exact Try.underlying57) (by rfl) (by decide) ?_
    | refine Plan.loadC (key := 1000) (q := 2) rfl rfl rfl rfl rfl rfl (obj_reads1 rfl) (by first | exact Try.underlying3 | exact Try.underlying9 | exact Try.underlying40 | exact Try.underlying4 | exact Try.underlying5 | exact Try.underlying41 | exact Try.underlying22 | exact Try.underlying57) (by rfl) (by decide) ?_
    | refine Plan.eqlPtr rfl rfl rfl rfl (by kernel_rfl) ?_
    | refine Plan.neqPtr rfl rfl rfl rfl (by kernel_rfl) ?_
    | refine J.seq (J.region mixed hI (by kernel_rfl) ?_)
    | refine J.region mixed hI (by kernel_rfl) ?_
    | refine J.seq (J.seq (J.region mixed hI (by kernel_rfl) ?_))
    | refine J.condF rfl ?_
    | refine J.condT rfl ?_
    | refine J.skip ?_)
  refine Plan.allocC (key := 1000) (z := .agg #[.bool false, .bool false, .bool false, .bool false]) rfl rfl rfl (by intro _ e; cases e; decide) (by kernel_rfl) rfl hA fun β => ?_
  repeat' (first
    | refine Plan.move rfl rfl rfl rfl ?_
    | refine Plan.assign rfl rfl rfl rfl ?_
    | refine Plan.skip rfl rfl ?_
    | refine Plan.extract rfl rfl rfl rfl rfl ?_
    | refine Plan.pick rfl rfl rfl rfl rfl ?_
    | refine Plan.lenStr rfl rfl rfl rfl Try.underlying9 ?_
    | refine Plan.lenE rfl rfl rfl rfl Try.underlying40 ?_
    | (refine Plan.ints rfl rfl rfl rfl rfl rfl ?_; (first | refine Plan.int (i64u8 _) ?_ | refine Plan.int (i64r (by omega)) ?_ | refine Plan.int (u64r (by omega)) ?_ | refine Plan.int (u8r (by omega)) ?_ | refine Plan.int (u16r (by omega)) ?_ | refine Plan.int (quoN (by omega)) ?_ | refine Plan.int (remN _ _) ?_ | refine Plan.int (u8N _) ?_ | skip))
    | refine Plan.un rfl rfl rfl rfl rfl ?_
    | refine Plan.lenB rfl rfl rfl rfl (by first | exact Sub.refl _ | exact Sub.own | exact Sub.old (fun _ h => h) | exact Sub.oldOwn (fun _ h => h) | exact Sub.nilRow | exact Sub.ownLower hB | exact Sub.nilOwn (fun _ h => Nat.le_trans hB h.size)) Try.underlying40 ?_
    | (refine Plan.convInt rfl rfl rfl rfl (by first | exact Try.underlying2 | exact Try.underlying3 | exact Try.underlying5 | exact Try.underlying21 | exact Try.underlying37 | exact Try.underlying41 | exact Try.underlying59 | exact Try.underlying102) (by first | exact Try.underlying2 | exact Try.underlying3 | exact Try.underlying5 | exact Try.underlying21 | exact Try.underlying37 | exact Try.underlying41 | exact Try.underlying59 | exact Try.underlying102) ?_; (first | refine Plan.int (i64u8 _) ?_ | refine Plan.int (i64r (by omega)) ?_ | refine Plan.int (u64r (by omega)) ?_ | refine Plan.int (u8r (by omega)) ?_ | refine Plan.int (u16r (by omega)) ?_ | refine Plan.int (quoN (by omega)) ?_ | refine Plan.int (remN _ _) ?_ | refine Plan.int (u8N _) ?_ | skip))
    | refine Plan.nilOk rfl rfl rfl rfl ?_
    | refine Plan.fieldC rfl rfl rfl rfl (by first | exact Try.underlying25 | exact Try.underlying29 | exact Try.underlying31 | exact Try.underlying61 | exact Try.underlying75 | exact Try.underlying80) rfl (by kernel_rfl) (by first | exact (rfl : _ = 0) | exact (rfl : _ = 1) | exact (rfl : _ = 2) | exact (rfl : _ = 3) | exact (rfl : _ = 4) | exact (rfl : _ = 5) | exact (rfl : _ = 6) | exact (rfl : _ = 7) | exact (rfl : _ = 8) | exact (rfl : _ = 9) | exact (rfl : _ = 10) | exact (rfl : _ = 11) | exact (rfl : _ = 12) | exact (rfl : _ = 13) | exact (rfl : _ = 14) | exact (rfl : _ = 15) | exact (rfl : _ = 16) | exact (rfl : _ = 17) | exact (rfl : _ = 18) | exact (rfl : _ = 19) | exact (rfl : _ = 20) | exact (rfl : _ = 21) | exact (rfl : _ = 22) | exact (rfl : _ = 23) | exact (rfl : _ = 24) | exact (rfl : _ = 25)) ?_
    | refine Plan.loadC (key := 1000) (q := 0) rfl rfl rfl rfl rfl rfl (obj_reads1 rfl) (by first | exact Try.underlying3 | exact Try.underlying9 | exact Try.underlying40 | exact Try.underlying4 | exact Try.underlying5 | exact Try.underlying41 | exact Try.underlying22 | exact Try.underlying57) (by rfl) (by decide) ?_
    | refine Plan.loadC (key := 1000) (q := 1) rfl rfl rfl rfl rfl rfl (obj_reads1 rfl) (by first | exact Try.underlying3 | exact Try.underlying9 | exact Try.underlying40 | exact Try.underlying4 | exact Try.underlying5 | exact Try.underlying41 | exact Try.underlying22 | exact Try.underlying57) (by rfl) (by decide) ?_
    | refine Plan.loadC (key := 1000) (q := 2) rfl rfl rfl rfl rfl rfl (obj_reads1 rfl) (by first | exact Try.underlying3 | exact Try.underlying9 | exact Try.underlying40 | exact Try.underlying4 | exact Try.underlying5 | exact Try.underlying41 | exact Try.underlying22 | exact Try.underlying57) (by rfl) (by decide) ?_
    | refine Plan.eqlPtr rfl rfl rfl rfl (by kernel_rfl) ?_
    | refine Plan.neqPtr rfl rfl rfl rfl (by kernel_rfl) ?_
    | refine J.seq (J.region mixed hI (by kernel_rfl) ?_)
    | refine J.region mixed hI (by kernel_rfl) ?_
    | refine J.seq (J.seq (J.region mixed hI (by kernel_rfl) ?_))
    | refine J.condF rfl ?_
    | refine J.condT rfl ?_
    | refine J.skip ?_
    | refine J.block ?_
    | refine Plan.build (cells := #[.bool false, .bool true, .bool false, .bool false]) rfl rfl (ps := [(1, _)]) rfl (Parts.cons rfl Parts.nil) (by kernel_rfl) ?_
    | refine Plan.build (cells := #[.bool false, .bool false, .bool true, .bool false]) rfl rfl (ps := [(2, _)]) rfl (Parts.cons rfl Parts.nil) (by kernel_rfl) ?_
    | refine Plan.build (cells := #[.bool true, .bool false, .bool false, .bool false]) rfl rfl (ps := [(0, _)]) rfl (Parts.cons rfl Parts.nil) (by kernel_rfl) ?_
    | refine Plan.build (cells := #[.bool true, .bool true, .bool false, .bool false]) rfl rfl (ps := [(0, _), (1, _)]) rfl (Parts.cons rfl (Parts.cons rfl Parts.nil)) (by kernel_rfl) ?_
    | refine Plan.build (cells := #[.bool true, .bool false, .bool true, .bool false]) rfl rfl (ps := [(0, _), (2, _)]) rfl (Parts.cons rfl (Parts.cons rfl Parts.nil)) (by kernel_rfl) ?_
    | refine Plan.build (cells := #[.bool false, .bool true, .bool false, .bool true]) rfl rfl (ps := [(1, _), (3, _)]) rfl (Parts.cons rfl (Parts.cons rfl Parts.nil)) (by kernel_rfl) ?_
    | refine Plan.build (cells := #[.bool false, .bool false, .bool false, .bool true]) rfl rfl (ps := [(3, _)]) rfl (Parts.cons rfl Parts.nil) (by kernel_rfl) ?_
    | refine Plan.build (cells := #[.bool false, .bool false, .bool false, .bool false]) rfl rfl (ps := []) rfl Parts.nil (by kernel_rfl) ?_
    | refine Plan.storeC (key := 1000) (q := 0) (off := 0) rfl rfl rfl rfl rfl rfl (by simp [Value.cells, Value.oneCell']) (by kernel_rfl) rfl hA rfl (obj_pat (Nat.le_of_ble_eq_true rfl)) ?_    | refine Plan.strs rfl rfl rfl rfl rfl rfl ?_
    | refine Plan.boxC (key := 1000) rfl rfl rfl (by intro _ e; cases e; decide) rfl rfl hA fun _ => ?_
    | refine J.condD rfl (fun _ => ?_) (fun _ => ?_)
    | refine J.condND rfl (fun _ => ?_) (fun _ => ?_)
    | refine J.condE rfl (fun _ => ?_) (fun _ => ?_)
    | refine J.condN rfl (fun _ => ?_) (fun _ => ?_)
    | refine Plan.splitD (fun _ => ?_) (fun _ => ?_)
    | refine Plan.splitND (fun _ => ?_) (fun _ => ?_)
    | refine Plan.splitE (fun _ => ?_) (fun _ => ?_)
    | refine Plan.splitN (fun _ => ?_) (fun _ => ?_)
    | refine J.seq ?_)
  all_goals refine J.ret (Nrm.retCT (key := 1000) (q := 0) rfl (fun _ h => h) rfl rfl rfl obj_whole Try.underlying61 rfl (by kernel_rfl) fun B _ => ⟨_, _, uses_tup (parts_of ?_ ?_ ?_ ?_) ?_, rfl, Sub.refl _⟩)
  all_goals first
    | refine (decide_eq_true ?_).symm
    | refine (decide_eq_false ?_).symm
    | refine beq_decide ?_
  all_goals ((try simp only [fieldP, valueP, numP, refP, kindP, addP, dotP, hasP, rightVP] at *); omega)
end Go.Proofs.Ythjneijkapopoaa
