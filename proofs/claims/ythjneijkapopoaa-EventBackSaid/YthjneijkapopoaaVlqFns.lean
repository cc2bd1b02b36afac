/-
  math/bits.Len64, vlq.own and vlq.Put do what the plain functions say: for any number of 64 bits, and slices of at most 2^47 - 20 bytes.
-/
import Derived.Test.YthjneijkapopoaaVlqPlain
set_option linter.unusedSimpArgs false
set_option linter.unusedVariables false
set_option maxRecDepth 20000
namespace Go.Proofs.Ythjneijkapopoaa
open Go.Free Go.RowKit Go.Proofs

theorem u64n {x : Nat} (h : x < 2 ^ 64) : IntKind.u64.wrap (x : Int) = x := by rw [IntKind.wrap_u64]; omega
theorem u8n (x : Nat) : IntKind.u8.wrap (x : Int) = ((x % 256 : Nat) : Int) := by rw [IntKind.wrap_u8]; omega
theorem fdivn (x k : Nat) : (x : Int).fdiv (2 ^ k) = ((x / 2 ^ k : Nat) : Int) := by
  rw [Int.fdiv_eq_ediv_of_nonneg _ (by exact Int.le_of_lt (Int.pow_pos (by decide)))]
  simp

def tab8 : List UInt8 := (List.range 256).map fun n => UInt8.ofNat (bl n)
theorem lenEnd {n x u : Nat} (h : bl u = n + bl x) (hx : x < 256) (hn : n ≤ 56) : bl u < 128 := by
  have : bl x ≤ 8 := by
    by_cases h0 : x = 0
    · simp [h0, bl]
    · have h1 := bl_le h0
      have : bl x - 1 < 8 := (Nat.pow_lt_pow_iff_right (a := 2) (by decide)).1 (by omega)
      omega
  omega

def lenEnv (s : Nat × Nat) : Env := [(0, .ex (.int .u64 s.1)), (2, .ex (.int .i64 s.2))]

theorem bits_Len64 (u : Nat) (hu : u < 2 ^ 64) : Spc Try.prog 55 [.ex (.int .u64 u)] fun _ => .ex (.int .i64 (bl u)) := by
  refine Spc.intro Try.func55 rfl (Nat.le_of_ble_eq_true rfl) fun w0 => ?_
  have hI := hIb w0
  refine J.seq (J.region mixed hI (by kernel_rfl) ?_)
  repeat (refine Plan.assign rfl rfl rfl rfl ?_)
  refine J.seqMid lenEnv (fun s => s.1 < 2 ^ 32 ∧ bl u = s.2 + bl s.1 ∧ s.2 ≤ 32) ?_ ?_
  · refine J.seq (J.region mixed hI (by kernel_rfl) ?_)
    repeat (first | refine Plan.move rfl rfl rfl rfl ?_ | refine Plan.ints rfl rfl rfl rfl rfl rfl ?_)
    refine J.cond rfl (fun hc => ?_) (fun hc => ?_)
    · have h : 2 ^ 32 ≤ u := by have : (4294967296 : Int) ≤ u := by simpa using hc
                                omega
      refine J.seq (J.region mixed hI (by kernel_rfl) ?_)
      refine Plan.move rfl rfl rfl rfl ?_
      refine Plan.shift rfl rfl rfl rfl rfl rfl ?_
      refine Plan.int (fdivn u 32) ?_
      repeat (refine Plan.assign rfl rfl rfl rfl ?_)
      refine (J.region mixed hI (by kernel_rfl) ?_)
      repeat (refine Plan.assign rfl rfl rfl rfl ?_)
      exact Nrm.mid (u / 2 ^ 32, 32) ⟨by show u / 2 ^ 32 < _; omega, by show bl u = 32 + bl (u / 2 ^ 32); rw [bl_shift h]; omega, by show 32 ≤ 32; omega⟩ (Weak.cons rfl (Sub.refl _) (Weak.cons rfl (Sub.refl _) Weak.nil))
    · have h : u < 2 ^ 32 := by have : ¬ (4294967296 : Int) ≤ u := by simpa using hc
                                omega
      refine J.skip ?_
      exact Nrm.mid (u, 0) ⟨h, by simp, by show 0 ≤ 32; omega⟩ (Weak.cons rfl (Sub.refl _) (Weak.cons rfl (Sub.refl _) Weak.nil))
  rintro ⟨x, n⟩ ⟨hx, hb, hn⟩
  simp only at hx hb hn
  refine J.seqMid lenEnv (fun s => s.1 < 2 ^ 16 ∧ bl u = s.2 + bl s.1 ∧ s.2 ≤ 48) ?_ ?_
  · refine J.seq (J.region mixed hI (by kernel_rfl) ?_)
    repeat (first | refine Plan.move rfl rfl rfl rfl ?_ | refine Plan.ints rfl rfl rfl rfl rfl rfl ?_)
    refine J.cond rfl (fun hc => ?_) (fun hc => ?_)
    · have h : 2 ^ 16 ≤ x := by have : (65536 : Int) ≤ x := by simpa using hc
                                omega
      refine J.seq (J.region mixed hI (by kernel_rfl) ?_)
      refine Plan.move rfl rfl rfl rfl ?_
      refine Plan.shift rfl rfl rfl rfl rfl rfl ?_
      refine Plan.int (fdivn x 16) ?_
      repeat (refine Plan.assign rfl rfl rfl rfl ?_)
      refine (J.region mixed hI (by kernel_rfl) ?_)
      refine Plan.move rfl rfl rfl rfl ?_
      refine Plan.ints rfl rfl rfl rfl rfl rfl ?_
      refine Plan.int (y := ((n + 16 : Nat) : Int)) (by rw [i64r (by omega)]; omega) ?_
      repeat (refine Plan.assign rfl rfl rfl rfl ?_)
      exact Nrm.mid (x / 2 ^ 16, n + 16) ⟨by show x / 2 ^ 16 < _; omega, by show bl u = n + 16 + bl (x / 2 ^ 16); rw [hb, bl_shift h]; omega, by show n + 16 ≤ 48; omega⟩ (Weak.cons rfl (Sub.refl _) (Weak.cons rfl (Sub.refl _) Weak.nil))
    · have h : x < 2 ^ 16 := by have : ¬ (65536 : Int) ≤ x := by simpa using hc
                                omega
      refine J.skip ?_
      exact Nrm.mid (x, n) ⟨h, hb, by show n ≤ 48; omega⟩ (Weak.cons rfl (Sub.refl _) (Weak.cons rfl (Sub.refl _) Weak.nil))
  clear hx hb hn x n
  rintro ⟨x, n⟩ ⟨hx, hb, hn⟩
  simp only at hx hb hn
  refine J.seqMid lenEnv (fun s => s.1 < 2 ^ 8 ∧ bl u = s.2 + bl s.1 ∧ s.2 ≤ 56) ?_ ?_
  · refine J.seq (J.region mixed hI (by kernel_rfl) ?_)
    repeat (first | refine Plan.move rfl rfl rfl rfl ?_ | refine Plan.ints rfl rfl rfl rfl rfl rfl ?_)
    refine J.cond rfl (fun hc => ?_) (fun hc => ?_)
    · have h : 2 ^ 8 ≤ x := by have : (256 : Int) ≤ x := by simpa using hc
                               omega
      refine J.seq (J.region mixed hI (by kernel_rfl) ?_)
      refine Plan.move rfl rfl rfl rfl ?_
      refine Plan.shift rfl rfl rfl rfl rfl rfl ?_
      refine Plan.int (fdivn x 8) ?_
      repeat (refine Plan.assign rfl rfl rfl rfl ?_)
      refine (J.region mixed hI (by kernel_rfl) ?_)
      refine Plan.move rfl rfl rfl rfl ?_
      refine Plan.ints rfl rfl rfl rfl rfl rfl ?_
      refine Plan.int (y := ((n + 8 : Nat) : Int)) (by rw [i64r (by omega)]; omega) ?_
      repeat (refine Plan.assign rfl rfl rfl rfl ?_)
      exact Nrm.mid (x / 2 ^ 8, n + 8) ⟨by show x / 2 ^ 8 < _; omega, by show bl u = n + 8 + bl (x / 2 ^ 8); rw [hb, bl_shift h]; omega, by show n + 8 ≤ 56; omega⟩ (Weak.cons rfl (Sub.refl _) (Weak.cons rfl (Sub.refl _) Weak.nil))
    · have h : x < 2 ^ 8 := by have : ¬ (256 : Int) ≤ x := by simpa using hc
                               omega
      refine J.skip ?_
      exact Nrm.mid (x, n) ⟨h, hb, by show n ≤ 56; omega⟩ (Weak.cons rfl (Sub.refl _) (Weak.cons rfl (Sub.refl _) Weak.nil))
  clear hx hb hn x n
  rintro ⟨x, n⟩ ⟨hx, hb, hn⟩
  simp only at hx hb hn
  have hlt := lenEnd hb (by omega) hn
  have htab : ∀ x : Fin 256, (tab8.getD x.val 0).toNat = bl x.val := by decide +kernel
  refine J.seq (J.region mixed hI (by kernel_rfl) ?_)
  repeat (refine Plan.move rfl rfl rfl rfl ?_)
  refine Plan.convInt rfl rfl rfl rfl Try.underlying59 Try.underlying5 ?_
  refine Plan.int (y := (x : Int)) (by rw [u8n]; omega) ?_
  refine Plan.index (p := tab8) rfl rfl rfl (by kernel_rfl) rfl Try.underlying9 (by omega) (by show (x : Int) < ((List.length tab8 : Nat) : Int); rw [show List.length tab8 = 256 from by simp [tab8]]; omega) ?_
  refine Plan.int (y := (bl x : Int)) (by rw [Int.toNat_natCast]; exact congrArg _ (htab ⟨x, by omega⟩)) ?_
  refine Plan.convInt rfl rfl rfl rfl Try.underlying5 Try.underlying3 ?_
  refine Plan.int (y := (bl x : Int)) (i64r (by omega)) ?_
  refine Plan.ints rfl rfl rfl rfl rfl rfl ?_
  refine Plan.int (y := (bl u : Int)) (by rw [i64r (by omega)]; omega) ?_
  repeat (refine Plan.assign rfl rfl rfl rfl ?_)
  exact J.ret (Nrm.ret1 rfl (fun _ h => h) rfl fun B _ => Sub.refl _)

theorem vlq_own (l : List UInt8) (hl : l.length ≤ 140737488355308) : Spc Try.prog 54 [bytesF l] fun B => ownB B l := by
  refine Spc.intro Try.func54 rfl (Nat.le_of_ble_eq_true rfl) fun w0 => ?_
  have hI := hIb w0
  refine J.seq (J.region mixed hI (by kernel_rfl) ?_)
  repeat (refine Plan.assign rfl rfl rfl rfl ?_)
  refine J.seq (J.region mixed hI (by kernel_rfl) ?_)
  repeat (refine Plan.move rfl rfl rfl rfl ?_)
  refine Plan.lenRow rfl rfl rfl rfl (Sub.old fun _ h => h) Try.underlying40 (m := l.length) (by simp [bs]) (by decide) ?_
  refine Plan.ints rfl rfl rfl rfl rfl rfl ?_
  refine Plan.int (y := ((l.length + 10 : Nat) : Int)) (by rw [i64r (by omega)]; omega) ?_
  refine Plan.make0 (B := w0.heap.size) rfl rfl rfl rfl rfl eltB (hBb w0) (by omega) ?_
  repeat (refine Plan.move rfl rfl rfl rfl ?_)
  refine Plan.append rfl rfl rfl rfl (Sub.refl _) rfl (Sub.old fun _ h => h) eltB (by intro d hd; cases hd; decide) (hGb w0) (bs_one l) (by simp [bs]; omega) ?_
  repeat (refine Plan.assign rfl rfl rfl rfl ?_)
  exact J.ret (Nrm.ret1 rfl (fun _ h => h) rfl fun B hB => Sub.trans (Sub.of_eq (by simp)) (Sub.ownLower hB))

theorem or128 (x : Nat) : IntKind.u8.wrap ((BitVec.ofInt IntKind.u8.bits (IntKind.u8.wrap (x : Int)) ||| BitVec.ofInt IntKind.u8.bits 128).toNat : Int) = (digit x).toNat := by
  have h : ∀ y : Fin 256, (BitVec.ofInt 8 (y.val : Int) ||| BitVec.ofInt 8 128).toNat = 128 + y.val % 128 := by decide +kernel
  have := h ⟨x % 256, by omega⟩
  simp only at this
  rw [u8n, digit_nat]
  show IntKind.u8.wrap ((BitVec.ofInt 8 ((x % 256 : Nat) : Int) ||| BitVec.ofInt 8 128).toNat : Int) = _
  rw [this, IntKind.wrap_u8]
  omega
theorem and127 (x : Nat) : IntKind.u8.wrap ((BitVec.ofInt IntKind.u8.bits (IntKind.u8.wrap (x : Int)) &&& BitVec.ofInt IntKind.u8.bits 127).toNat : Int) = (lastD x).toNat := by
  have h : ∀ y : Fin 256, (BitVec.ofInt 8 (y.val : Int) &&& BitVec.ofInt 8 127).toNat = y.val % 128 := by decide +kernel
  have := h ⟨x % 256, by omega⟩
  simp only at this
  rw [u8n, lastD_nat]
  show IntKind.u8.wrap ((BitVec.ofInt 8 ((x % 256 : Nat) : Int) &&& BitVec.ofInt 8 127).toNat : Int) = _
  rw [this, IntKind.wrap_u8]
  omega

def putEnv (w0 : World) (l : List UInt8) (u q : Nat) : Env := [(1, .ex (.int .u64 u)), (5, ownB w0.heap.size (l ++ emit u (ahead u) q)), (6, .ex (.int .i64 ((7 * (ahead u - q) : Nat) : Int)))]

theorem vlq_Put (l : List UInt8) (u : Nat) (hu : u < 2 ^ 64) (hl : l.length ≤ 140737488355308) : Spc Try.prog 31 [bytesF l, .ex (.int .u64 u)] fun B => ownB B (l ++ num u) := by
  refine Spc.intro Try.func31 rfl (Nat.le_of_ble_eq_true rfl) fun w0 => ?_
  have hI := hIb w0
  have hbd := ahead_bd hu
  have hbl : bl u ≤ 70 := by have : ahead u ≤ 9 := hbd; unfold ahead at this; omega
  refine J.seq (J.region mixed hI (by kernel_rfl) ?_)
  repeat (refine Plan.assign rfl rfl rfl rfl ?_)
  refine J.seq (J.region mixed hI (by kernel_rfl) ?_)
  repeat (refine Plan.move rfl rfl rfl rfl ?_)
  refine Plan.call (B := w0.heap.size) rfl rfl rfl (vlq_own l hl) Try.func54 rfl rfl (hBb w0) (Opnds.cons rfl (Sub.old fun _ h => h) Opnds.nil) ?_
  repeat (refine Plan.assign rfl rfl rfl rfl ?_)
  refine J.seq (J.seq (J.region mixed hI (by kernel_rfl) ?_))
  repeat (refine Plan.move rfl rfl rfl rfl ?_)
  refine Plan.call (B := 0) (R := fun _ => .ex (.int .i64 (bl u))) rfl rfl rfl (bits_Len64 u hu) Try.func55 rfl rfl (fun _ _ => Nat.zero_le _) (Opnds.cons rfl (Sub.refl _) Opnds.nil) ?_
  refine Plan.max2 rfl rfl rfl rfl rfl ?_
  refine Plan.int (y := ((max (bl u) 1 : Nat) : Int)) (by split <;> omega) ?_
  refine Plan.ints rfl rfl rfl rfl rfl rfl ?_
  refine Plan.int (y := ((max (bl u) 1 - 1 : Nat) : Int)) (by rw [i64r (by omega)]; omega) ?_
  refine Plan.ints rfl rfl rfl rfl rfl rfl ?_
  refine Plan.int (y := (ahead u : Int)) (by rw [Int.tdiv_eq_ediv_of_nonneg (by omega), i64r (by omega)]; unfold ahead; omega) ?_
  refine Plan.ints rfl rfl rfl rfl rfl rfl ?_
  refine Plan.int (y := ((7 * (ahead u - 0) : Nat) : Int)) (by rw [i64r (by omega)]; omega) ?_
  repeat (refine Plan.assign rfl rfl rfl rfl ?_)
  refine J.block (J.loop (putEnv w0 l u) (fun q => q ≤ ahead u) (fun q => ahead u - q) 0 (Nat.zero_le _) ?_ ?_)
  · exact Weak.cons rfl (Sub.refl _) (Weak.cons rfl (Sub.of_eq (by simp [emit])) (Weak.cons rfl (Sub.refl _) Weak.nil))
  intro q hq
  have hel : (emit u (ahead u) q).length = q := by simp [emit]
  refine J.seq (J.seq (J.region mixed hI (by kernel_rfl) ?_))
  repeat (first | refine Plan.move rfl rfl rfl rfl ?_ | refine Plan.ints rfl rfl rfl rfl rfl rfl ?_)
  refine J.cond rfl (fun hc => ?_) (fun hc => ?_)
  · have hlt : q < ahead u := by have : (0 : Int) < ((7 * (ahead u - q) : Nat) : Int) := by simpa using hc
                                 omega
    refine J.skip ?_
    refine J.seq (J.block (J.region mixed hI (by kernel_rfl) ?_))
    refine Plan.move rfl rfl rfl rfl ?_
    refine Plan.move rfl rfl rfl rfl ?_
    refine Plan.move rfl rfl rfl rfl ?_
    refine Plan.shift (v := .int .u64 ((u / 128 ^ (ahead u - q) : Nat) : Int)) rfl rfl rfl rfl rfl ?_ ?_
    · unfold shVal
      rw [if_neg (by omega)]
      simp only [Int.toNat_natCast]
      have hmin : min (7 * (ahead u - q)) IntKind.u64.bits = 7 * (ahead u - q) := Nat.min_eq_left (by show 7 * (ahead u - q) ≤ 64; omega)
      rw [hmin, fdivn, Nat.pow_mul]
    refine Plan.convInt rfl rfl rfl rfl Try.underlying59 Try.underlying5 ?_
    refine Plan.ints rfl rfl rfl rfl rfl rfl ?_
    refine Plan.int (or128 _) ?_
    refine Plan.lit (B := w0.heap.size) rfl rfl rfl eltB rfl (hBb w0) rfl (by simp [Value.cells]) (by decide) ?_
    refine Plan.append (news := bs [digit (u / 128 ^ (ahead u - q))]) rfl rfl rfl rfl (Sub.refl _) rfl Sub.own eltB (by intro d hd; cases hd; decide) (hGb w0) (bs_one _) (by simp [bs, hel]; omega) ?_
    repeat (refine Plan.assign rfl rfl rfl rfl ?_)
    refine (J.region mixed hI (by kernel_rfl) ?_)
    refine Plan.move rfl rfl rfl rfl ?_
    refine Plan.ints rfl rfl rfl rfl rfl rfl ?_
    refine Plan.int (y := ((7 * (ahead u - (q + 1)) : Nat) : Int)) (by rw [i64r (by omega)]; omega) ?_
    repeat (refine Plan.assign rfl rfl rfl rfl ?_)
    refine Nrm.weak (putEnv w0 l u (q + 1)) ?_ fun a w h1 h2 h3 => ⟨q + 1, by omega, by omega, h1, h2, h3⟩
    refine Weak.cons rfl (Sub.refl _) (Weak.cons rfl (Sub.of_eq ?_) (Weak.cons rfl (Sub.refl _) Weak.nil))
    rw [← bs_append, emit_succ, List.append_assoc]
  · have hge : q = ahead u := by have : ¬ (0 : Int) < ((7 * (ahead u - q) : Nat) : Int) := by simpa using hc
                                 omega
    subst hge
    refine J.exit ?_
    refine J.seq (J.region mixed hI (by kernel_rfl) ?_)
    repeat (refine Plan.move rfl rfl rfl rfl ?_)
    refine Plan.convInt rfl rfl rfl rfl Try.underlying59 Try.underlying5 ?_
    refine Plan.ints rfl rfl rfl rfl rfl rfl ?_
    refine Plan.int (and127 _) ?_
    refine Plan.lit (B := w0.heap.size) rfl rfl rfl eltB rfl (hBb w0) rfl (by simp [Value.cells]) (by decide) ?_
    refine Plan.append (news := bs [lastD u]) rfl rfl rfl rfl (Sub.refl _) rfl Sub.own eltB (by intro d hd; cases hd; decide) (hGb w0) (bs_one _) (by simp [bs, hel]; omega) ?_
    repeat (refine Plan.assign rfl rfl rfl rfl ?_)
    refine J.ret (Nrm.ret1 rfl (fun _ h => h) rfl fun B hB => Sub.trans (Sub.of_eq ?_) (Sub.ownLower hB))
    rw [← bs_append, List.append_assoc, ← num_emit]
end Go.Proofs.Ythjneijkapopoaa
