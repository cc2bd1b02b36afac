/-
  The references of numbers and texts as bytes return what the plain functions say; so do vlq.PutText, PutInt, TakeInt and TakeText.
-/
import Derived.Test.YthjneijkapopoaaVlqTake
set_option linter.unusedSimpArgs false
set_option linter.unusedVariables false
set_option maxRecDepth 20000
namespace Go.Proofs.Ythjneijkapopoaa
open Go.Free Go.RowKit Go.Proofs

def rnEnv (u q : Nat) : Env := [(0, .ex (.int .u64 ((u / 128 ^ (q + 1) : Nat) : Int))), (3, .ex (str ((List.range q).map (fun i => digit (u / 128 ^ (q - i))) ++ [lastD u])))]

theorem ref_Number (u : Nat) (hu : u < 2 ^ 64) : Spc Try.prog 56 [.ex (.int .u64 u)] fun _ => .ex (str (num u)) := by
  refine Spc.intro Try.func56 rfl (Nat.le_of_ble_eq_true rfl) fun w0 => ?_
  have hI := hIb w0
  refine J.seq (J.region mixed hI (by kernel_rfl) ?_)
  repeat (refine Plan.assign rfl rfl rfl rfl ?_)
  refine J.seq (J.region mixed hI (by kernel_rfl) ?_)
  repeat (first | refine Plan.move rfl rfl rfl rfl ?_ | refine Plan.ints rfl rfl rfl rfl rfl rfl ?_)
  refine Plan.int (y := ((u % 128 : Nat) : Int)) (by rw [Int.tmod_eq_emod_of_nonneg (by omega)]; omega) ?_
  refine Plan.convInt rfl rfl rfl rfl Try.underlying59 Try.underlying5 ?_
  refine Plan.int (y := ((lastD u).toNat : Int)) (by rw [u8n, lastD_nat]; omega) ?_
  refine Plan.lit (B := w0.heap.size) rfl rfl rfl eltB rfl (hBb w0) rfl (by simp [Value.cells]) (by decide) ?_
  refine Plan.convBS (p := [lastD u]) rfl rfl rfl rfl (Sub.trans Sub.own (Sub.refl _)) Try.underlying40 Try.underlying9 Try.underlying5 ?_
  repeat (refine Plan.assign rfl rfl rfl rfl ?_)
  refine J.seq (J.region mixed hI (by kernel_rfl) ?_)
  refine Plan.move rfl rfl rfl rfl ?_
  refine Plan.ints rfl rfl rfl rfl rfl rfl ?_
  refine Plan.int (y := ((u / 128 ^ (0 + 1) : Nat) : Int)) (by rw [Int.tdiv_eq_ediv_of_nonneg (by omega), IntKind.wrap_u64]; omega) ?_
  repeat (refine Plan.assign rfl rfl rfl rfl ?_)
  refine J.seq (J.block (J.loop (rnEnv u) (fun q => q ≤ 10 ∧ (q ≠ 0 → 128 ^ q ≤ u)) (fun q => 10 - q) 0 ⟨by omega, fun h => absurd rfl h⟩ ?_ ?_))
  · exact Weak.cons rfl (Sub.refl _) (Weak.cons rfl (Sub.refl _) Weak.nil)
  rintro q ⟨hq, hql⟩
  have hq9 : q ≤ 9 := by
    rcases Nat.lt_or_ge q 10 with h | h
    · omega
    · have := hql (by omega)
      have : 128 ^ 10 ≤ 128 ^ q := Nat.pow_le_pow_right (by decide) h
      omega
  refine J.seq (J.seq (J.region mixed hI (by kernel_rfl) ?_))
  repeat (first | refine Plan.move rfl rfl rfl rfl ?_ | refine Plan.ints rfl rfl rfl rfl rfl rfl ?_)
  refine J.cond rfl (fun hc => ?_) (fun hc => ?_)
  · have hpos : 0 < u / 128 ^ (q + 1) := by have : (0 : Int) < ((u / 128 ^ (q + 1) : Nat) : Int) := by simpa using hc
                                            omega
    have hle : 128 ^ (q + 1) ≤ u := (Nat.div_pos_iff.1 hpos).2
    have hdl : u / 128 ^ (q + 1) < 2 ^ 64 := Nat.lt_of_le_of_lt (Nat.div_le_self _ _) hu
    refine J.skip ?_
    refine J.block ?_
    refine J.seq (J.region mixed hI (by kernel_rfl) ?_)
    refine Plan.move rfl rfl rfl rfl ?_
    refine Plan.ints rfl rfl rfl rfl rfl rfl ?_
    refine Plan.int (y := ((u / 128 ^ (q + 1) % 128 : Nat) : Int)) (by rw [Int.tmod_eq_emod_of_nonneg (by omega)]; omega) ?_
    refine Plan.ints rfl rfl rfl rfl rfl rfl ?_
    refine Plan.int (y := ((digit (u / 128 ^ (q + 1))).toNat : Int)) (by rw [digit_nat, IntKind.wrap_u64]; omega) ?_
    refine Plan.convInt rfl rfl rfl rfl Try.underlying59 Try.underlying5 ?_
    refine Plan.int (w8 _) ?_
    refine Plan.lit (B := w0.heap.size) rfl rfl rfl eltB rfl (hBb w0) rfl (by simp [Value.cells]) (by decide) ?_
    refine Plan.convBS (p := [digit (u / 128 ^ (q + 1))]) rfl rfl rfl rfl (Sub.trans Sub.own (Sub.refl _)) Try.underlying40 Try.underlying9 Try.underlying5 ?_
    repeat (refine Plan.move rfl rfl rfl rfl ?_)
    refine Plan.concat rfl rfl rfl rfl rfl (by simp; omega) ?_
    repeat (refine Plan.assign rfl rfl rfl rfl ?_)
    refine (J.region mixed hI (by kernel_rfl) ?_)
    refine Plan.move rfl rfl rfl rfl ?_
    refine Plan.ints rfl rfl rfl rfl rfl rfl ?_
    refine Plan.int (y := ((u / 128 ^ (q + 1 + 1) : Nat) : Int)) (by rw [Int.tdiv_eq_ediv_of_nonneg (by omega), Nat.pow_succ 128 (q + 1), ← Nat.div_div_eq_div_mul, IntKind.wrap_u64]; omega) ?_
    repeat (refine Plan.assign rfl rfl rfl rfl ?_)
    refine Nrm.weak (rnEnv u (q + 1)) ?_ fun a w h1 h2 h3 => ⟨q + 1, ⟨by omega, fun _ => hle⟩, by omega, h1, h2, h3⟩
    refine Weak.cons rfl (Sub.refl _) (Weak.cons rfl (Sub.of_eq ?_) Weak.nil)
    have hlist : ([digit (u / 128 ^ (q + 1))] ++ ((List.range q).map (fun i => digit (u / 128 ^ (q - i))) ++ [lastD u])) = (List.range (q + 1)).map (fun i => digit (u / 128 ^ (q + 1 - i))) ++ [lastD u] := by
      rw [List.range_succ_eq_map, List.map_cons, List.map_map]
      simp only [List.cons_append, List.nil_append, Nat.sub_zero, List.cons.injEq, true_and]
      congr 1
      refine List.map_congr_left fun i hi => ?_
      simp only [Function.comp]
      congr 3; omega
    rw [hlist]
  · have hz : u / 128 ^ (q + 1) = 0 := by
      rcases Nat.eq_zero_or_pos (u / 128 ^ (q + 1)) with h | h
      · exact h
      · exact absurd (Int.natCast_pos.2 h) (of_decide_eq_false hc)
    have hlt : u < 128 ^ (q + 1) := by
      rcases Nat.div_eq_zero_iff.1 hz with h | h
      · have := Nat.pow_pos (n := q + 1) (show 0 < 128 by decide); omega
      · exact h
    have ha : ahead u = q := ahead_of hlt hql
    refine J.exit ?_
    refine J.seq (J.region mixed hI (by kernel_rfl) ?_)
    repeat (first | refine Plan.move rfl rfl rfl rfl ?_ | refine Plan.assign rfl rfl rfl rfl ?_)
    refine J.ret (Nrm.ret1 rfl (fun _ h => h) rfl fun B _ => Sub.of_eq ?_)
    rw [num_emit, ha]; rfl

theorem ref_Text (s : List UInt8) (hs : s.length ≤ 9223372036854775000) : Spc Try.prog 57 [.ex (str s)] fun _ => .ex (str (num s.length ++ s)) := by
  refine Spc.intro Try.func57 rfl (Nat.le_of_ble_eq_true rfl) fun w0 => ?_
  have hI := hIb w0
  have hn := num_le (u := s.length) (by omega)
  refine J.seq (J.region mixed hI (by kernel_rfl) ?_)
  repeat (refine Plan.assign rfl rfl rfl rfl ?_)
  refine J.seq (J.region mixed hI (by kernel_rfl) ?_)
  repeat (first | refine Plan.move rfl rfl rfl rfl ?_ | refine Plan.lenStr rfl rfl rfl rfl Try.underlying9 ?_)
  refine Plan.convInt rfl rfl rfl rfl Try.underlying3 Try.underlying59 ?_
  refine Plan.int (u64n (by omega)) ?_
  refine Plan.call (B := 0) (R := fun _ => .ex (str (num s.length))) rfl rfl rfl (ref_Number s.length (by omega)) Try.func56 rfl rfl (fun _ _ => Nat.zero_le _) (Opnds.cons rfl (Sub.refl _) Opnds.nil) ?_
  repeat (refine Plan.move rfl rfl rfl rfl ?_)
  refine Plan.concat rfl rfl rfl rfl rfl (by omega) ?_
  repeat (refine Plan.assign rfl rfl rfl rfl ?_)
  exact J.ret (Nrm.ret1 rfl (fun _ h => h) rfl fun B _ => Sub.refl _)

/-- The number without a sign that goes for one with a sign. -/
def zig (x : Int) : Nat := if 0 ≤ x then (2 * x).toNat else (2 * (-(x + 1)) + 1).toNat
theorem zig_lt {x : Int} (h : -9223372036854775808 ≤ x ∧ x ≤ 9223372036854775807) : zig x < 2 ^ 64 := by unfold zig; split <;> omega
def zag (u : Nat) : Int := if u % 2 = 0 then (u / 2 : Nat) else -((u / 2 : Nat) : Int) - 1
theorem zag_zig (x : Int) : zag (zig x) = x := by unfold zag zig; split <;> split <;> omega

theorem ref_Int (x : Int) (h : -9223372036854775808 ≤ x ∧ x ≤ 9223372036854775807) : Spc Try.prog 58 [.ex (.int .i64 x)] fun _ => .ex (str (num (zig x))) := by
  have hz := zig_lt h
  refine Spc.intro Try.func58 rfl (Nat.le_of_ble_eq_true rfl) fun w0 => ?_
  have hI := hIb w0
  refine J.seq (J.region mixed hI (by kernel_rfl) ?_)
  repeat (refine Plan.assign rfl rfl rfl rfl ?_)
  refine J.seq (J.seq (J.region mixed hI (by kernel_rfl) ?_))
  repeat (first | refine Plan.move rfl rfl rfl rfl ?_ | refine Plan.ints rfl rfl rfl rfl rfl rfl ?_)
  refine J.cond rfl (fun hc => ?_) (fun hc => ?_)
  · have h0 : 0 ≤ x := by simpa using hc
    have he : (zig x : Int) = 2 * x := by unfold zig; rw [if_pos h0]; omega
    refine J.seq (J.region mixed hI (by kernel_rfl) ?_)
    repeat (refine Plan.move rfl rfl rfl rfl ?_)
    refine Plan.convInt rfl rfl rfl rfl Try.underlying3 Try.underlying59 ?_
    refine Plan.ints rfl rfl rfl rfl rfl rfl ?_
    refine Plan.int (y := (zig x : Int)) (by rw [IntKind.wrap_u64, IntKind.wrap_u64, he]; omega) ?_
    refine Plan.call (B := 0) (R := fun _ => .ex (str (num (zig x)))) rfl rfl rfl (ref_Number (zig x) hz) Try.func56 rfl rfl (fun _ _ => Nat.zero_le _) (Opnds.cons rfl (Sub.refl _) Opnds.nil) ?_
    repeat (refine Plan.assign rfl rfl rfl rfl ?_)
    exact J.ret (Nrm.ret1 rfl (fun _ h => h) rfl fun B _ => Sub.refl _)
  · have h0 : ¬ 0 ≤ x := by simpa using hc
    have he : (zig x : Int) = 2 * (-(x + 1)) + 1 := by unfold zig; rw [if_neg h0]; omega
    refine J.skip ?_
    refine J.seq (J.region mixed hI (by kernel_rfl) ?_)
    refine Plan.move rfl rfl rfl rfl ?_
    refine Plan.ints rfl rfl rfl rfl rfl rfl ?_
    refine Plan.int (i64r (by omega)) ?_
    refine Plan.un rfl rfl rfl rfl rfl ?_
    refine Plan.int (y := -(x + 1)) (by rw [i64r (by omega)]; omega) ?_
    refine Plan.convInt rfl rfl rfl rfl Try.underlying3 Try.underlying59 ?_
    refine Plan.ints rfl rfl rfl rfl rfl rfl ?_
    refine Plan.ints rfl rfl rfl rfl rfl rfl ?_
    refine Plan.int (y := (zig x : Int)) (by rw [IntKind.wrap_u64, IntKind.wrap_u64, IntKind.wrap_u64, he]; omega) ?_
    refine Plan.call (B := 0) (R := fun _ => .ex (str (num (zig x)))) rfl rfl rfl (ref_Number (zig x) hz) Try.func56 rfl rfl (fun _ _ => Nat.zero_le _) (Opnds.cons rfl (Sub.refl _) Opnds.nil) ?_
    repeat (refine Plan.assign rfl rfl rfl rfl ?_)
    exact J.ret (Nrm.ret1 rfl (fun _ h => h) rfl fun B _ => Sub.refl _)

theorem ref_Signed (u : Nat) (hu : u < 2 ^ 64) : Spc Try.prog 66 [.ex (.int .u64 u)] fun _ => .ex (.int .i64 (zag u)) := by
  refine Spc.intro Try.func66 rfl (Nat.le_of_ble_eq_true rfl) fun w0 => ?_
  have hI := hIb w0
  refine J.seq (J.region mixed hI (by kernel_rfl) ?_)
  repeat (refine Plan.assign rfl rfl rfl rfl ?_)
  refine J.seq (J.seq (J.region mixed hI (by kernel_rfl) ?_))
  refine Plan.move rfl rfl rfl rfl ?_
  refine Plan.ints rfl rfl rfl rfl rfl rfl ?_
  refine Plan.int (y := ((u % 2 : Nat) : Int)) (by rw [Int.tmod_eq_emod_of_nonneg (by omega)]; omega) ?_
  repeat (refine Plan.ints rfl rfl rfl rfl rfl rfl ?_)
  refine J.cond rfl (fun hc => ?_) (fun hc => ?_)
  · have h0 : u % 2 = 0 := by have : ((u % 2 : Nat) : Int) = 0 := by simpa using hc
                              omega
    refine J.seq (J.region mixed hI (by kernel_rfl) ?_)
    refine Plan.move rfl rfl rfl rfl ?_
    refine Plan.ints rfl rfl rfl rfl rfl rfl ?_
    refine Plan.int (y := ((u / 2 : Nat) : Int)) (by rw [Int.tdiv_eq_ediv_of_nonneg (by omega), IntKind.wrap_u64]; omega) ?_
    refine Plan.convInt rfl rfl rfl rfl Try.underlying59 Try.underlying3 ?_
    refine Plan.int (i64r (by omega)) ?_
    repeat (refine Plan.assign rfl rfl rfl rfl ?_)
    refine J.ret (Nrm.ret1 rfl (fun _ h => h) rfl fun B _ => Sub.of_eq ?_)
    unfold zag; rw [if_pos h0]
  · have h0 : ¬ u % 2 = 0 := by intro e; rw [e] at hc; simp at hc
    refine J.skip ?_
    refine J.seq (J.region mixed hI (by kernel_rfl) ?_)
    refine Plan.move rfl rfl rfl rfl ?_
    refine Plan.ints rfl rfl rfl rfl rfl rfl ?_
    refine Plan.int (y := ((u / 2 : Nat) : Int)) (by rw [Int.tdiv_eq_ediv_of_nonneg (by omega), IntKind.wrap_u64]; omega) ?_
    refine Plan.convInt rfl rfl rfl rfl Try.underlying59 Try.underlying3 ?_
    refine Plan.int (i64r (by omega)) ?_
    refine Plan.un rfl rfl rfl rfl rfl ?_
    refine Plan.int (y := -((u / 2 : Nat) : Int)) (by rw [i64r (by omega)]; omega) ?_
    refine Plan.ints rfl rfl rfl rfl rfl rfl ?_
    refine Plan.int (y := zag u) (by rw [i64r (by omega)]; unfold zag; rw [if_neg h0]) ?_
    repeat (refine Plan.assign rfl rfl rfl rfl ?_)
    exact J.ret (Nrm.ret1 rfl (fun _ h => h) rfl fun B _ => Sub.refl _)

theorem vlq_PutText (l s : List UInt8) (hl : l.length + s.length ≤ 140737488355300) : Spc Try.prog 33 [bytesF l, .ex (str s)] fun B => ownB B (l ++ (num s.length ++ s)) := by
  refine Spc.intro Try.func33 rfl (Nat.le_of_ble_eq_true rfl) fun w0 => ?_
  have hI := hIb w0
  have hn := num_le (u := s.length) (by omega)
  refine J.seq (J.region mixed hI (by kernel_rfl) ?_)
  repeat (refine Plan.assign rfl rfl rfl rfl ?_)
  refine J.seq (J.region mixed hI (by kernel_rfl) ?_)
  repeat (first | refine Plan.move rfl rfl rfl rfl ?_ | refine Plan.lenStr rfl rfl rfl rfl Try.underlying9 ?_)
  refine Plan.convInt rfl rfl rfl rfl Try.underlying3 Try.underlying59 ?_
  refine Plan.int (u64n (by omega)) ?_
  refine Plan.call (B := w0.heap.size) rfl rfl rfl (vlq_Put l s.length (by omega) (by omega)) Try.func31 rfl rfl (hBb w0) (Opnds.cons rfl (Sub.old fun _ h => h) (Opnds.cons rfl (Sub.refl _) Opnds.nil)) ?_
  repeat (refine Plan.move rfl rfl rfl rfl ?_)
  refine Plan.appendStr rfl rfl rfl rfl (Sub.refl _) rfl Try.underlying9 eltB (by intro d hd; cases hd; decide) (hGb w0) (by simp [bs]; omega) ?_
  repeat (refine Plan.assign rfl rfl rfl rfl ?_)
  refine J.ret (Nrm.ret1 rfl (fun _ h => h) rfl fun B hB => Sub.trans (Sub.of_eq ?_) (Sub.ownLower hB))
  rw [← bs_append, List.append_assoc]

theorem p64 : ((2 ^ 64 : Nat) : Int) = 18446744073709551616 := by decide
theorem ofInt_m1 : BitVec.ofInt 64 (-1) = BitVec.allOnes 64 := by decide
theorem ofInt_0 : BitVec.ofInt 64 0 = 0#64 := by decide
theorem zig_go {x : Int} (h : -9223372036854775808 ≤ x ∧ x ≤ 9223372036854775807) :
    IntKind.u64.wrap (IntKind.i64.wrap ((BitVec.ofInt IntKind.i64.bits (IntKind.i64.wrap (x * 2 ^ min (Int.toNat 1) IntKind.i64.bits)) ^^^ BitVec.ofInt IntKind.i64.bits (x.fdiv (2 ^ min (Int.toNat 63) IntKind.i64.bits))).toNat : Int)) = (zig x : Int) := by
  have e1 : IntKind.i64.wrap (x * 2 ^ min (Int.toNat 1) IntKind.i64.bits) = IntKind.i64.wrap (2 * x) := by show IntKind.i64.wrap (x * 2 ^ 1) = _; congr 1; omega
  have hx : x.fdiv (2 ^ min (Int.toNat 63) IntKind.i64.bits) = if 0 ≤ x then 0 else -1 := by
    show x.fdiv (2 ^ 63) = _
    rw [Int.fdiv_eq_ediv_of_nonneg _ (by decide)]
    split <;> omega
  rw [e1, hx]
  clear e1 hx
  have hz := zig_lt h
  have hw : (IntKind.i64.wrap (2 * x)) % 18446744073709551616 = (2 * x) % 18446744073709551616 := by rw [IntKind.wrap_i64]; omega
  by_cases h0 : 0 ≤ x
  · rw [if_pos h0]
    have e2 : (BitVec.ofInt IntKind.i64.bits (IntKind.i64.wrap (2 * x)) ^^^ BitVec.ofInt IntKind.i64.bits 0).toNat = zig x := by
      show (BitVec.ofInt 64 (IntKind.i64.wrap (2 * x)) ^^^ BitVec.ofInt 64 0).toNat = _
      rw [ofInt_0, BitVec.xor_zero, BitVec.toNat_ofInt, p64, hw]
      unfold zig; rw [if_pos h0]; omega
    rw [e2, IntKind.wrap_i64, IntKind.wrap_u64]; omega
  · rw [if_neg h0]
    have e2 : (BitVec.ofInt IntKind.i64.bits (IntKind.i64.wrap (2 * x)) ^^^ BitVec.ofInt IntKind.i64.bits (-1)).toNat = zig x := by
      show (BitVec.ofInt 64 (IntKind.i64.wrap (2 * x)) ^^^ BitVec.ofInt 64 (-1)).toNat = _
      rw [ofInt_m1, BitVec.xor_allOnes, BitVec.toNat_not, BitVec.toNat_ofInt, p64, hw]
      unfold zig; rw [if_neg h0, show (2 ^ 64 - 1 : Nat) = 18446744073709551615 from rfl]; omega
    rw [e2, IntKind.wrap_i64, IntKind.wrap_u64]; omega

theorem vlq_PutInt (l : List UInt8) (x : Int) (h : -9223372036854775808 ≤ x ∧ x ≤ 9223372036854775807) (hl : l.length ≤ 140737488355300) : Spc Try.prog 34 [bytesF l, .ex (.int .i64 x)] fun B => ownB B (l ++ num (zig x)) := by
  refine Spc.intro Try.func34 rfl (Nat.le_of_ble_eq_true rfl) fun w0 => ?_
  have hI := hIb w0
  refine J.seq (J.region mixed hI (by kernel_rfl) ?_)
  repeat (refine Plan.assign rfl rfl rfl rfl ?_)
  refine J.seq (J.region mixed hI (by kernel_rfl) ?_)
  repeat (first | refine Plan.move rfl rfl rfl rfl ?_ | refine Plan.ints rfl rfl rfl rfl rfl rfl ?_ | refine Plan.shift rfl rfl rfl rfl rfl rfl ?_)
  refine Plan.convInt rfl rfl rfl rfl Try.underlying3 Try.underlying59 ?_
  refine Plan.int (zig_go h) ?_
  refine Plan.call (B := w0.heap.size) rfl rfl rfl (vlq_Put l (zig x) (zig_lt h) (by omega)) Try.func31 rfl rfl (hBb w0) (Opnds.cons rfl (Sub.old fun _ h => h) (Opnds.cons rfl (Sub.refl _) Opnds.nil)) ?_
  repeat (refine Plan.assign rfl rfl rfl rfl ?_)
  exact J.ret (Nrm.ret1 rfl (fun _ h => h) rfl fun B hB => Sub.ownLower hB)

/-- A number with a sign, taken. -/
theorem zag_go (u : Nat) (hu : u < 2 ^ 64) :
    IntKind.i64.wrap ((BitVec.ofInt IntKind.i64.bits (IntKind.i64.wrap ((u : Int).fdiv (2 ^ min (Int.toNat 1) IntKind.u64.bits))) ^^^ BitVec.ofInt IntKind.i64.bits (IntKind.i64.wrap (0 - IntKind.i64.wrap (IntKind.u64.wrap ((BitVec.ofInt IntKind.u64.bits (u : Int) &&& BitVec.ofInt IntKind.u64.bits 1).toNat : Int))))).toNat : Int) = zag u := by
  have e1 : (u : Int).fdiv (2 ^ min (Int.toNat 1) IntKind.u64.bits) = ((u / 2 : Nat) : Int) := fdivn u 1
  have e2 : (BitVec.ofInt IntKind.u64.bits (u : Int) &&& BitVec.ofInt IntKind.u64.bits 1).toNat = u % 2 := by
    show (BitVec.ofInt 64 (u : Int) &&& 1#64).toNat = _
    rw [BitVec.toNat_and, ofInt_u64 u hu]
    exact Nat.and_one_is_mod u
  have e0 : u / 2 < 2 ^ 63 := by omega
  rw [e1, e2]
  clear e1 e2
  rw [i64r (x := ((u / 2 : Nat) : Int)) (by omega), u64n (x := u % 2) (by omega), i64r (x := ((u % 2 : Nat) : Int)) (by omega), i64r (x := 0 - ((u % 2 : Nat) : Int)) (by omega)]
  unfold zag
  by_cases h0 : u % 2 = 0
  · rw [if_pos h0, h0]
    have : (BitVec.ofInt IntKind.i64.bits ((u / 2 : Nat) : Int) ^^^ BitVec.ofInt IntKind.i64.bits (0 - ((0 : Nat) : Int))).toNat = u / 2 := by
      show (BitVec.ofInt 64 ((u / 2 : Nat) : Int) ^^^ BitVec.ofInt 64 (0 - 0)).toNat = _
      rw [Int.sub_zero, ofInt_0, BitVec.xor_zero, ofInt_u64 _ (by omega)]
    rw [this, i64r (by omega)]
  · have h1 : u % 2 = 1 := by omega
    rw [if_neg h0, h1]
    have : (BitVec.ofInt IntKind.i64.bits ((u / 2 : Nat) : Int) ^^^ BitVec.ofInt IntKind.i64.bits (0 - ((1 : Nat) : Int))).toNat = 2 ^ 64 - 1 - u / 2 := by
      show (BitVec.ofInt 64 ((u / 2 : Nat) : Int) ^^^ BitVec.ofInt 64 (0 - 1)).toNat = _
      rw [show (0 - 1 : Int) = -1 from rfl, ofInt_m1, BitVec.xor_allOnes, BitVec.toNat_not, ofInt_u64 _ (by omega)]
    rw [this, IntKind.wrap_i64]; omega

theorem vlq_TakeInt (l : List UInt8) (p : Int) (hp : -9223372036854775808 ≤ p ∧ p ≤ 9223372036854775807) (hl : l.length ≤ 9223372036854775807) : Spc Try.prog 69 [bytesF l, .ex (.int .i64 p)] fun _ => .tup [.ex (.int .i64 (zag (vTake l p).1)), .ex (.int .i64 (vTake l p).2.1), .ex (.int .i64 (vTake l p).2.2)] := by
  refine Spc.intro Try.func69 rfl (Nat.le_of_ble_eq_true rfl) fun w0 => ?_
  have hI := hIb w0
  have hb := (vTake_bd l p).1
  refine J.seq (J.region mixed hI (by kernel_rfl) ?_)
  repeat (refine Plan.assign rfl rfl rfl rfl ?_)
  refine J.seq (J.region mixed hI (by kernel_rfl) ?_)
  repeat (refine Plan.move rfl rfl rfl rfl ?_)
  refine Plan.call (B := 0) (R := fun _ => takeRes l p) rfl rfl rfl (vlq_Take l p hp hl) Try.func61 rfl rfl (fun _ _ => Nat.zero_le _) (Opnds.cons rfl (Sub.old fun _ h => h) (Opnds.cons rfl (Sub.refl _) Opnds.nil)) ?_
  repeat (first | refine Plan.move rfl rfl rfl rfl ?_ | refine Plan.assign rfl rfl rfl rfl ?_ | refine Plan.extract rfl rfl rfl rfl rfl ?_)
  refine J.seq (J.region mixed hI (by kernel_rfl) ?_)
  repeat (first | refine Plan.move rfl rfl rfl rfl ?_ | refine Plan.shift rfl rfl rfl rfl rfl rfl ?_)
  refine Plan.convInt rfl rfl rfl rfl Try.underlying59 Try.underlying3 ?_
  repeat (first | refine Plan.move rfl rfl rfl rfl ?_ | refine Plan.ints rfl rfl rfl rfl rfl rfl ?_)
  refine Plan.convInt rfl rfl rfl rfl Try.underlying59 Try.underlying3 ?_
  refine Plan.un rfl rfl rfl rfl rfl ?_
  refine Plan.ints rfl rfl rfl rfl rfl rfl ?_
  refine Plan.int (zag_go _ hb) ?_
  repeat (first | refine Plan.move rfl rfl rfl rfl ?_ | refine Plan.assign rfl rfl rfl rfl ?_)
  exact J.ret (Nrm.ret3 rfl (fun _ h => h) fun B _ => ⟨_, rfl, Ress.cons rfl (Sub.refl _) (Ress.cons rfl (Sub.refl _) (Ress.cons rfl (Sub.refl _) Ress.nil))⟩)
end Go.Proofs.Ythjneijkapopoaa
