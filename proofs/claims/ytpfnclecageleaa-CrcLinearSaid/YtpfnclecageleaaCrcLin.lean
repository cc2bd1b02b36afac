/-
  The check is linear: laws CrcLinear returns true for all texts.
-/
import Derived.Test.YtpfnclecageleaaCrcLaws2
namespace Go.Proofs.Ytpfnclecageleaa
open Go.Free Go.RowKit Go.Proofs

/-! ### The plain law -/
theorem shr15 (n : BitVec 16) : n >>> 15 = 0#16 ∨ n >>> 15 = 1#16 := by
  have := n.isLt
  have h : (n >>> 15).toNat = n.toNat / 2 ^ 15 := by rw [BitVec.toNat_ushiftRight, Nat.shiftRight_eq_div_pow]
  rcases Nat.lt_or_ge n.toNat (2 ^ 15) with h1 | h1
  · exact .inl (BitVec.eq_of_toNat_eq (by rw [h]; simp; omega))
  · exact .inr (BitVec.eq_of_toNat_eq (by rw [h]; simp; omega))
theorem xlc (a b c : BitVec 16) : a ^^^ (b ^^^ c) = b ^^^ (a ^^^ c) := by rw [← BitVec.xor_assoc, BitVec.xor_comm a b, BitVec.xor_assoc]
theorem step_xor (a b : BitVec 16) : crcStep (a ^^^ b) = crcStep a ^^^ crcStep b := by
  have h : (a ^^^ b) >>> 15 = (a >>> 15) ^^^ (b >>> 15) := by
    apply BitVec.eq_of_getElem_eq; intro i hi; simp
  have h2 : (a ^^^ b) <<< 1 = (a <<< 1) ^^^ (b <<< 1) := by
    apply BitVec.eq_of_getElem_eq; intro i hi; simp
    by_cases hh : i = 0 <;> simp [hh]
  have h3 : 0x1021#16 * ((a >>> 15) ^^^ (b >>> 15)) = (0x1021#16 * (a >>> 15)) ^^^ (0x1021#16 * (b >>> 15)) := by
    rcases shr15 a with h1 | h1 <;> rcases shr15 b with h2 | h2 <;> rw [h1, h2] <;> rfl
  simp only [crcStep, h, h2, h3]
  simp only [BitVec.xor_assoc]
  rw [xlc (b <<< 1)]
theorem steps_xor (k : Nat) (a b : BitVec 16) : crcSteps k (a ^^^ b) = crcSteps k a ^^^ crcSteps k b := by
  induction k with
  | zero => rfl
  | succ k ih => simp only [crcSteps, ih, step_xor]
theorem lift_xor (c d : UInt8) : lift16 (c ^^^ d) <<< 8 = (lift16 c <<< 8) ^^^ (lift16 d <<< 8) := by
  apply BitVec.eq_of_getElem_eq; intro i hi
  simp [lift16]
  by_cases hh : i < 8 <;> simp [hh]
theorem byte_xor (m n : BitVec 16) (c d : UInt8) : crcByte (m ^^^ n) (c ^^^ d) = crcByte m c ^^^ crcByte n d := by
  simp only [crcByte, lift_xor, ← steps_xor]
  congr 1
  simp only [BitVec.xor_assoc]
  rw [xlc n]
theorem from_xor : ∀ (a b : List UInt8) (m n : BitVec 16), a.length = b.length → crcFrom (m ^^^ n) (List.zipWith (· ^^^ ·) a b) = crcFrom m a ^^^ crcFrom n b
  | [], [], m, n, _ => rfl
  | [], _ :: _, _, _, h => by simp at h
  | _ :: _, [], _, _, h => by simp at h
  | x :: a, y :: b, m, n, h => by
    simp only [List.zipWith_cons_cons, crcFrom, List.foldl_cons, byte_xor]
    exact from_xor a b _ _ (by simpa using h)
theorem zip_zero : ∀ (a : List UInt8), List.zipWith (· ^^^ ·) a (List.replicate a.length (0 : UInt8)) = a
  | [] => rfl
  | x :: a => by simp [List.replicate_succ, zip_zero a]
theorem crc_linear (a b : List UInt8) (h : a.length = b.length) : crcOf (List.zipWith (· ^^^ ·) a b) = crcOf a ^^^ crcOf b ^^^ crcOf (List.replicate a.length 0) := by
  have hl : (List.zipWith (· ^^^ ·) a b).length = a.length := by simp [h]
  have h1 := from_xor (List.zipWith (· ^^^ ·) a b) (List.replicate a.length 0) (0xffff#16 ^^^ 0xffff#16) 0xffff#16 (by simp [h])
  rw [from_xor a b _ _ h] at h1
  rw [← hl, zip_zero, hl] at h1
  exact h1

/-! ### The walk -/
theorem u8_xor (a b : UInt8) : IntKind.u8.wrap ((BitVec.ofInt IntKind.u8.bits (a.toNat : Int) ^^^ BitVec.ofInt IntKind.u8.bits (b.toNat : Int)).toNat : Int) = (a ^^^ b).toNat := by
  have ha := a.toNat_lt
  have hb := b.toNat_lt
  have h : (BitVec.ofInt IntKind.u8.bits (a.toNat : Int) ^^^ BitVec.ofInt IntKind.u8.bits (b.toNat : Int)).toNat = a.toNat ^^^ b.toNat := by
    show (BitVec.ofInt 8 (a.toNat : Int) ^^^ BitVec.ofInt 8 (b.toNat : Int)).toNat = _
    rw [BitVec.toNat_xor, ofInt_u8 _ ha, ofInt_u8 _ hb]
  rw [h, UInt8.toNat_xor]
  have : a.toNat ^^^ b.toNat < 2 ^ 8 := Nat.xor_lt_two_pow ha hb
  rw [IntKind.wrap_u8]; omega
def xorTo (a b : List UInt8) (n j : Nat) : List UInt8 := (List.zipWith (· ^^^ ·) a b).take j ++ List.replicate (n - j) 0
theorem xorTo_len (a b : List UInt8) {n j : Nat} (hn : n = min a.length b.length) (hj : j ≤ n) : (xorTo a b n j).length = n := by
  simp [xorTo]; omega
theorem xorTo_set (a b : List UInt8) {n j : Nat} (hn : n = min a.length b.length) (hj : j < n) : (xorTo a b n j).set j (a.getD j 0 ^^^ b.getD j 0) = xorTo a b n (j + 1) := by
  have hz : (List.zipWith (· ^^^ ·) a b).length = n := by simp [hn]
  have h1 : ((List.zipWith (· ^^^ ·) a b).take j).length = j := by rw [List.length_take]; omega
  unfold xorTo
  rw [show n - j = (n - (j + 1)) + 1 by omega, List.replicate_succ]
  have h2 : ((List.zipWith (· ^^^ ·) a b).take j ++ 0 :: List.replicate (n - (j + 1)) 0).set j (a.getD j 0 ^^^ b.getD j 0) = (List.zipWith (· ^^^ ·) a b).take j ++ (a.getD j 0 ^^^ b.getD j 0) :: List.replicate (n - (j + 1)) 0 := by
    rw [List.set_append_right _ _ (by omega), h1]; simp
  rw [h2, List.take_succ_eq_append_getElem (by omega), List.append_assoc]
  congr 1
  have ha : j < a.length := by omega
  have hb : j < b.length := by omega
  simp [List.getD_eq_getElem?_getD, List.getElem?_eq_getElem ha, List.getElem?_eq_getElem hb]
theorem bs_set (l : List UInt8) (j : Nat) (c : UInt8) : (bs l).set j (.int .u8 c.toNat) = bs (l.set j c) := by
  simp [bs, List.map_set]
theorem made_bs (n : Nat) : (madeCells (Value.int .u8 0).cells (n * 1)).toList = bs (List.replicate n 0) := by
  have : (Value.int .u8 0).cells = #[.int .u8 0] := rfl
  rw [this, toList_madeCells_one, Nat.mul_one]
  simp [bs]

def linEnv (B : Nat) (a b : List UInt8) (n j : Nat) : Env :=
  [(0, .ex (str a)), (1, .ex (str b)), (5, .ex (.int .i64 n)), (6, ownB B (xorTo a b n j)), (29, .ex (.int .i64 n)), (30, .ex (.int .i64 j))]

theorem lawLinear (a b : List UInt8) (_ha : a.length ≤ 9223372036854775807) (_hb : b.length ≤ 9223372036854775807) : Spc Try.prog 3 [.ex (str a), .ex (str b)] fun _ => .ex (.bool true) := by
  refine Spc.intro Try.func3 rfl (Nat.le_of_ble_eq_true rfl) fun w0 => ?_
  have hI := hIb w0
  obtain ⟨n, hn⟩ : ∃ n, n = min a.length b.length := ⟨_, rfl⟩
  refine J.seq (J.region mixed hI (by kernel_rfl) ?_)
  repeat (first
    | refine Plan.move rfl rfl rfl rfl ?_
    | refine Plan.assign rfl rfl rfl rfl ?_
    | refine Plan.skip rfl rfl ?_
    | refine Plan.pick rfl rfl rfl rfl rfl ?_
    | refine Plan.ints rfl rfl rfl rfl rfl rfl ?_
    | refine Plan.shift rfl rfl rfl rfl rfl rfl ?_
    | refine Plan.un rfl rfl rfl rfl rfl ?_
    | refine Plan.extract rfl rfl rfl rfl rfl ?_
    | refine Plan.lenStr rfl rfl rfl rfl Try.underlying9 ?_)
  refine J.seq (J.seq (J.region mixed hI (by kernel_rfl) ?_))
  refine Plan.call (B := 0) (R := fun _ => .ex (.bool true)) rfl rfl rfl awake_fn Try.func16 rfl rfl (fun _ _ => Nat.zero_le _) Opnds.nil ?_
  refine Plan.un rfl rfl rfl rfl rfl ?_
  refine Plan.move rfl rfl rfl rfl ?_
  refine Plan.move rfl rfl rfl rfl ?_
  refine Plan.lenStr rfl rfl rfl rfl Try.underlying9 ?_
  refine Plan.ints rfl rfl rfl rfl rfl rfl ?_
  by_cases hla : 5000 < a.length
  · refine Plan.boolv (y := true) (by simp; omega) ?_
    repeat (first
    | refine Plan.move rfl rfl rfl rfl ?_
    | refine Plan.assign rfl rfl rfl rfl ?_
    | refine Plan.skip rfl rfl ?_
    | refine Plan.pick rfl rfl rfl rfl rfl ?_
    | refine Plan.ints rfl rfl rfl rfl rfl rfl ?_
    | refine Plan.shift rfl rfl rfl rfl rfl rfl ?_
    | refine Plan.un rfl rfl rfl rfl rfl ?_
    | refine Plan.extract rfl rfl rfl rfl rfl ?_
    | refine Plan.lenStr rfl rfl rfl rfl Try.underlying9 ?_)
    refine J.cond rfl (fun _ => ?_) (fun h => by cases h)
    refine J.seq (J.region mixed hI (by kernel_rfl) ?_)
    refine Plan.call (B := 0) (R := fun _ => .ex (.bool true)) rfl rfl rfl awake_fn Try.func16 rfl rfl (fun _ _ => Nat.zero_le _) Opnds.nil ?_
    repeat (first
    | refine Plan.move rfl rfl rfl rfl ?_
    | refine Plan.assign rfl rfl rfl rfl ?_
    | refine Plan.skip rfl rfl ?_
    | refine Plan.pick rfl rfl rfl rfl rfl ?_
    | refine Plan.ints rfl rfl rfl rfl rfl rfl ?_
    | refine Plan.shift rfl rfl rfl rfl rfl rfl ?_
    | refine Plan.un rfl rfl rfl rfl rfl ?_
    | refine Plan.extract rfl rfl rfl rfl rfl ?_
    | refine Plan.lenStr rfl rfl rfl rfl Try.underlying9 ?_)
    exact J.ret (Nrm.ret1 rfl (fun _ h => h) rfl fun B _ => Sub.refl _)
  refine Plan.boolv (y := false) (by simp; omega) ?_
  repeat (first
    | refine Plan.move rfl rfl rfl rfl ?_
    | refine Plan.assign rfl rfl rfl rfl ?_
    | refine Plan.skip rfl rfl ?_
    | refine Plan.pick rfl rfl rfl rfl rfl ?_
    | refine Plan.ints rfl rfl rfl rfl rfl rfl ?_
    | refine Plan.shift rfl rfl rfl rfl rfl rfl ?_
    | refine Plan.un rfl rfl rfl rfl rfl ?_
    | refine Plan.extract rfl rfl rfl rfl rfl ?_
    | refine Plan.lenStr rfl rfl rfl rfl Try.underlying9 ?_)
  by_cases hlb : 5000 < b.length
  · refine J.cond rfl (fun _ => ?_) (fun h => absurd h (by simp; omega))
    refine J.seq (J.region mixed hI (by kernel_rfl) ?_)
    refine Plan.call (B := 0) (R := fun _ => .ex (.bool true)) rfl rfl rfl awake_fn Try.func16 rfl rfl (fun _ _ => Nat.zero_le _) Opnds.nil ?_
    repeat (first
    | refine Plan.move rfl rfl rfl rfl ?_
    | refine Plan.assign rfl rfl rfl rfl ?_
    | refine Plan.skip rfl rfl ?_
    | refine Plan.pick rfl rfl rfl rfl rfl ?_
    | refine Plan.ints rfl rfl rfl rfl rfl rfl ?_
    | refine Plan.shift rfl rfl rfl rfl rfl rfl ?_
    | refine Plan.un rfl rfl rfl rfl rfl ?_
    | refine Plan.extract rfl rfl rfl rfl rfl ?_
    | refine Plan.lenStr rfl rfl rfl rfl Try.underlying9 ?_)
    exact J.ret (Nrm.ret1 rfl (fun _ h => h) rfl fun B _ => Sub.refl _)
  refine J.cond rfl (fun h => absurd h (by simp; omega)) (fun _ => ?_)
  refine J.skip ?_
  refine J.seq (J.region mixed hI (by kernel_rfl) ?_)
  repeat (first
    | refine Plan.move rfl rfl rfl rfl ?_
    | refine Plan.assign rfl rfl rfl rfl ?_
    | refine Plan.skip rfl rfl ?_
    | refine Plan.pick rfl rfl rfl rfl rfl ?_
    | refine Plan.ints rfl rfl rfl rfl rfl rfl ?_
    | refine Plan.shift rfl rfl rfl rfl rfl rfl ?_
    | refine Plan.un rfl rfl rfl rfl rfl ?_
    | refine Plan.extract rfl rfl rfl rfl rfl ?_
    | refine Plan.lenStr rfl rfl rfl rfl Try.underlying9 ?_)
  refine Plan.min2 rfl rfl rfl rfl rfl ?_
  refine Plan.int (y := (n : Int)) (by split <;> omega) ?_
  repeat (first
    | refine Plan.move rfl rfl rfl rfl ?_
    | refine Plan.assign rfl rfl rfl rfl ?_
    | refine Plan.skip rfl rfl ?_
    | refine Plan.pick rfl rfl rfl rfl rfl ?_
    | refine Plan.ints rfl rfl rfl rfl rfl rfl ?_
    | refine Plan.shift rfl rfl rfl rfl rfl rfl ?_
    | refine Plan.un rfl rfl rfl rfl rfl ?_
    | refine Plan.extract rfl rfl rfl rfl rfl ?_
    | refine Plan.lenStr rfl rfl rfl rfl Try.underlying9 ?_)
  refine J.seq (J.region mixed hI (by kernel_rfl) ?_)
  repeat (first
    | refine Plan.move rfl rfl rfl rfl ?_
    | refine Plan.assign rfl rfl rfl rfl ?_
    | refine Plan.skip rfl rfl ?_
    | refine Plan.pick rfl rfl rfl rfl rfl ?_
    | refine Plan.ints rfl rfl rfl rfl rfl rfl ?_
    | refine Plan.shift rfl rfl rfl rfl rfl rfl ?_
    | refine Plan.un rfl rfl rfl rfl rfl ?_
    | refine Plan.extract rfl rfl rfl rfl rfl ?_
    | refine Plan.lenStr rfl rfl rfl rfl Try.underlying9 ?_)
  refine Plan.makeN (B := w0.heap.size) rfl rfl rfl rfl rfl eltB (hBb w0) (by omega) ?_
  rw [made_bs]
  repeat (first
    | refine Plan.move rfl rfl rfl rfl ?_
    | refine Plan.assign rfl rfl rfl rfl ?_
    | refine Plan.skip rfl rfl ?_
    | refine Plan.pick rfl rfl rfl rfl rfl ?_
    | refine Plan.ints rfl rfl rfl rfl rfl rfl ?_
    | refine Plan.shift rfl rfl rfl rfl rfl rfl ?_
    | refine Plan.un rfl rfl rfl rfl rfl ?_
    | refine Plan.extract rfl rfl rfl rfl rfl ?_
    | refine Plan.lenStr rfl rfl rfl rfl Try.underlying9 ?_)
  refine J.seq (J.seq (J.region mixed hI (by kernel_rfl) ?_))
  repeat (first
    | refine Plan.move rfl rfl rfl rfl ?_
    | refine Plan.assign rfl rfl rfl rfl ?_
    | refine Plan.skip rfl rfl ?_
    | refine Plan.pick rfl rfl rfl rfl rfl ?_
    | refine Plan.ints rfl rfl rfl rfl rfl rfl ?_
    | refine Plan.shift rfl rfl rfl rfl rfl rfl ?_
    | refine Plan.un rfl rfl rfl rfl rfl ?_
    | refine Plan.extract rfl rfl rfl rfl rfl ?_
    | refine Plan.lenStr rfl rfl rfl rfl Try.underlying9 ?_)
  refine Plan.lenRow (m := n) rfl rfl rfl rfl Sub.own Try.underlying23 (by simp [bs]) (by decide) ?_
  repeat (first
    | refine Plan.move rfl rfl rfl rfl ?_
    | refine Plan.assign rfl rfl rfl rfl ?_
    | refine Plan.skip rfl rfl ?_
    | refine Plan.pick rfl rfl rfl rfl rfl ?_
    | refine Plan.ints rfl rfl rfl rfl rfl rfl ?_
    | refine Plan.shift rfl rfl rfl rfl rfl rfl ?_
    | refine Plan.un rfl rfl rfl rfl rfl ?_
    | refine Plan.extract rfl rfl rfl rfl rfl ?_
    | refine Plan.lenStr rfl rfl rfl rfl Try.underlying9 ?_)
  refine J.block (J.loop (linEnv w0.heap.size a b n) (fun j => j ≤ n) (fun j => n - j) 0 (Nat.zero_le _) ?_ ?_)
  · exact Weak.cons rfl (Sub.refl _) (Weak.cons rfl (Sub.refl _) (Weak.cons rfl (Sub.refl _) (Weak.cons rfl (Sub.of_eq (by simp [xorTo])) (Weak.cons rfl (Sub.refl _) (Weak.cons rfl (Sub.refl _) Weak.nil)))))
  intro j hj
  refine J.seq (J.region mixed hI (by kernel_rfl) ?_)
  repeat (first
    | refine Plan.move rfl rfl rfl rfl ?_
    | refine Plan.assign rfl rfl rfl rfl ?_
    | refine Plan.skip rfl rfl ?_
    | refine Plan.pick rfl rfl rfl rfl rfl ?_
    | refine Plan.ints rfl rfl rfl rfl rfl rfl ?_
    | refine Plan.shift rfl rfl rfl rfl rfl rfl ?_
    | refine Plan.un rfl rfl rfl rfl rfl ?_
    | refine Plan.extract rfl rfl rfl rfl rfl ?_
    | refine Plan.lenStr rfl rfl rfl rfl Try.underlying9 ?_)
  refine J.seq (J.cond rfl (fun hc => ?_) (fun hc => ?_))
  · have hlt : j < n := by simpa using hc
    refine J.skip ?_
    refine J.seq (J.block (J.seq (J.region mixed hI (by kernel_rfl) ?_)))
    repeat (first
    | refine Plan.move rfl rfl rfl rfl ?_
    | refine Plan.assign rfl rfl rfl rfl ?_
    | refine Plan.skip rfl rfl ?_
    | refine Plan.pick rfl rfl rfl rfl rfl ?_
    | refine Plan.ints rfl rfl rfl rfl rfl rfl ?_
    | refine Plan.shift rfl rfl rfl rfl rfl rfl ?_
    | refine Plan.un rfl rfl rfl rfl rfl ?_
    | refine Plan.extract rfl rfl rfl rfl rfl ?_
    | refine Plan.lenStr rfl rfl rfl rfl Try.underlying9 ?_)
    refine J.openOwn (t := 6) (key := 100) (m := n) rfl (Sub.refl _) (by rw [bs_length, xorTo_len a b hn hj]; omega) (by decide) (by omega) fun g cap hg => ?_
    obtain ⟨inf, hinf, _, hsz1, _⟩ := eltB.hi
    refine (J.region mixed hI (by kernel_rfl) ?_)
    repeat (first
    | refine Plan.move rfl rfl rfl rfl ?_
    | refine Plan.assign rfl rfl rfl rfl ?_
    | refine Plan.skip rfl rfl ?_
    | refine Plan.pick rfl rfl rfl rfl rfl ?_
    | refine Plan.ints rfl rfl rfl rfl rfl rfl ?_
    | refine Plan.shift rfl rfl rfl rfl rfl rfl ?_
    | refine Plan.un rfl rfl rfl rfl rfl ?_
    | refine Plan.extract rfl rfl rfl rfl rfl ?_
    | refine Plan.lenStr rfl rfl rfl rfl Try.underlying9 ?_)
    refine Plan.index rfl rfl rfl rfl rfl Try.underlying9 (by omega) (by omega) ?_
    repeat (first
    | refine Plan.move rfl rfl rfl rfl ?_
    | refine Plan.assign rfl rfl rfl rfl ?_
    | refine Plan.skip rfl rfl ?_
    | refine Plan.pick rfl rfl rfl rfl rfl ?_
    | refine Plan.ints rfl rfl rfl rfl rfl rfl ?_
    | refine Plan.shift rfl rfl rfl rfl rfl rfl ?_
    | refine Plan.un rfl rfl rfl rfl rfl ?_
    | refine Plan.extract rfl rfl rfl rfl rfl ?_
    | refine Plan.lenStr rfl rfl rfl rfl Try.underlying9 ?_)
    refine Plan.index rfl rfl rfl rfl rfl Try.underlying9 (by omega) (by omega) ?_
    refine Plan.ints rfl rfl rfl rfl rfl rfl ?_
    refine Plan.int (u8_xor _ _) ?_
    refine Plan.indexEx (q := j) rfl rfl rfl rfl rfl eltB (by omega) (by omega) (by simp) ?_
    refine Plan.storeRes (key := 100) rfl rfl rfl rfl rfl rfl rfl rfl hinf hsz1 rfl (by rw [bs_length, xorTo_len a b hn hj]; exact hlt) (by decide) (hGb w0) ?_
    refine (J.region mixed hI (by kernel_rfl) ?_)
    refine Plan.ints rfl rfl rfl rfl rfl rfl ?_
    refine Plan.int (y := ((j + 1 : Nat) : Int)) (by rw [i64r (by omega)]; omega) ?_
    repeat (first
    | refine Plan.move rfl rfl rfl rfl ?_
    | refine Plan.assign rfl rfl rfl rfl ?_
    | refine Plan.skip rfl rfl ?_
    | refine Plan.pick rfl rfl rfl rfl rfl ?_
    | refine Plan.ints rfl rfl rfl rfl rfl rfl ?_
    | refine Plan.shift rfl rfl rfl rfl rfl rfl ?_
    | refine Plan.un rfl rfl rfl rfl rfl ?_
    | refine Plan.extract rfl rfl rfl rfl rfl ?_
    | refine Plan.lenStr rfl rfl rfl rfl Try.underlying9 ?_)
    refine Nrm.closeOwn (t := 6) (key := 100) rfl rfl ?_
    refine Nrm.weak (linEnv w0.heap.size a b n (j + 1)) ?_ ?_
    · refine Weak.cons rfl (Sub.refl _) (Weak.cons rfl (Sub.refl _) (Weak.cons rfl (Sub.refl _) (Weak.cons rfl (Sub.of_eq ?_) (Weak.cons rfl (Sub.refl _) (Weak.cons rfl (Sub.refl _) Weak.nil)))))
      rw [bs_set, Int.toNat_natCast, xorTo_set a b hn hlt]
    · exact fun a w h1 h2 h3 => ⟨j + 1, hlt, by omega, h1, h2, h3⟩
  · have hge : j = n := by have : ¬ (j : Int) < n := by simpa using hc
                           omega
    subst hge
    have hx : xorTo a b j j = List.zipWith (· ^^^ ·) (a.take j) (b.take j) := by
      simp only [xorTo, Nat.sub_self, List.replicate_zero, List.append_nil, ← List.take_zipWith]
    have hta : (a.take j).length = j := by rw [List.length_take]; omega
    have htb : (b.take j).length = j := by rw [List.length_take]; omega
    have hlin := crc_linear (a.take j) (b.take j) (by rw [hta, htb])
    rw [hta] at hlin
    refine J.exit ?_
    refine J.seq (J.region mixed hI (by kernel_rfl) ?_)
    repeat (first
    | refine Plan.move rfl rfl rfl rfl ?_
    | refine Plan.assign rfl rfl rfl rfl ?_
    | refine Plan.skip rfl rfl ?_
    | refine Plan.pick rfl rfl rfl rfl rfl ?_
    | refine Plan.ints rfl rfl rfl rfl rfl rfl ?_
    | refine Plan.shift rfl rfl rfl rfl rfl rfl ?_
    | refine Plan.un rfl rfl rfl rfl rfl ?_
    | refine Plan.extract rfl rfl rfl rfl rfl ?_
    | refine Plan.lenStr rfl rfl rfl rfl Try.underlying9 ?_)
    refine Plan.call (B := w0.heap.size) rfl rfl rfl (crc_Of (xorTo a b j j) (by rw [xorTo_len a b hn (Nat.le_refl _)]; omega)) Try.func17 rfl rfl (hBb w0) (Opnds.cons rfl Sub.own Opnds.nil) ?_
    repeat (first
    | refine Plan.move rfl rfl rfl rfl ?_
    | refine Plan.assign rfl rfl rfl rfl ?_
    | refine Plan.skip rfl rfl ?_
    | refine Plan.pick rfl rfl rfl rfl rfl ?_
    | refine Plan.ints rfl rfl rfl rfl rfl rfl ?_
    | refine Plan.shift rfl rfl rfl rfl rfl rfl ?_
    | refine Plan.un rfl rfl rfl rfl rfl ?_
    | refine Plan.extract rfl rfl rfl rfl rfl ?_
    | refine Plan.lenStr rfl rfl rfl rfl Try.underlying9 ?_)
    refine Plan.sliceStr (a0 := 0) (b0 := j) rfl rfl rfl rfl Try.underlying9 (.inl ⟨rfl, rfl⟩) (.inr ⟨_, _, rfl, rfl⟩) (Nat.zero_le _) (by omega) ?_
    refine Plan.convSB (p := a.take j) rfl rfl rfl rfl Try.underlying9 Try.underlying23 Try.underlying5 (by omega) ?_
    refine Plan.call (B := w0.heap.size) rfl rfl rfl (crc_Of (a.take j) (by omega)) Try.func17 rfl rfl (hBb w0) (Opnds.cons rfl (Sub.refl _) Opnds.nil) ?_
    repeat (first
    | refine Plan.move rfl rfl rfl rfl ?_
    | refine Plan.assign rfl rfl rfl rfl ?_
    | refine Plan.skip rfl rfl ?_
    | refine Plan.pick rfl rfl rfl rfl rfl ?_
    | refine Plan.ints rfl rfl rfl rfl rfl rfl ?_
    | refine Plan.shift rfl rfl rfl rfl rfl rfl ?_
    | refine Plan.un rfl rfl rfl rfl rfl ?_
    | refine Plan.extract rfl rfl rfl rfl rfl ?_
    | refine Plan.lenStr rfl rfl rfl rfl Try.underlying9 ?_)
    refine Plan.sliceStr (a0 := 0) (b0 := j) rfl rfl rfl rfl Try.underlying9 (.inl ⟨rfl, rfl⟩) (.inr ⟨_, _, rfl, rfl⟩) (Nat.zero_le _) (by omega) ?_
    refine Plan.convSB (p := b.take j) rfl rfl rfl rfl Try.underlying9 Try.underlying23 Try.underlying5 (by omega) ?_
    refine Plan.call (B := w0.heap.size) rfl rfl rfl (crc_Of (b.take j) (by omega)) Try.func17 rfl rfl (hBb w0) (Opnds.cons rfl (Sub.refl _) Opnds.nil) ?_
    refine Plan.ints rfl rfl rfl rfl rfl rfl ?_
    refine Plan.int (u16_xor _ _) ?_
    repeat (first
    | refine Plan.move rfl rfl rfl rfl ?_
    | refine Plan.assign rfl rfl rfl rfl ?_
    | refine Plan.skip rfl rfl ?_
    | refine Plan.pick rfl rfl rfl rfl rfl ?_
    | refine Plan.ints rfl rfl rfl rfl rfl rfl ?_
    | refine Plan.shift rfl rfl rfl rfl rfl rfl ?_
    | refine Plan.un rfl rfl rfl rfl rfl ?_
    | refine Plan.extract rfl rfl rfl rfl rfl ?_
    | refine Plan.lenStr rfl rfl rfl rfl Try.underlying9 ?_)
    refine Plan.makeN (B := w0.heap.size) rfl rfl rfl rfl rfl eltB (hBb w0) (by omega) ?_
    rw [made_bs]
    refine Plan.call (B := w0.heap.size) rfl rfl rfl (crc_Of (List.replicate j 0) (by simp; omega)) Try.func17 rfl rfl (hBb w0) (Opnds.cons rfl Sub.own Opnds.nil) ?_
    refine Plan.ints rfl rfl rfl rfl rfl rfl ?_
    refine Plan.int (u16_xor _ _) ?_
    refine Plan.ints rfl rfl rfl rfl rfl rfl ?_
    refine Plan.boolv (y := true) (by rw [beq16, hx, hlin]; simp) ?_
    repeat (first
    | refine Plan.move rfl rfl rfl rfl ?_
    | refine Plan.assign rfl rfl rfl rfl ?_
    | refine Plan.skip rfl rfl ?_
    | refine Plan.pick rfl rfl rfl rfl rfl ?_
    | refine Plan.ints rfl rfl rfl rfl rfl rfl ?_
    | refine Plan.shift rfl rfl rfl rfl rfl rfl ?_
    | refine Plan.un rfl rfl rfl rfl rfl ?_
    | refine Plan.extract rfl rfl rfl rfl rfl ?_
    | refine Plan.lenStr rfl rfl rfl rfl Try.underlying9 ?_)
    exact J.ret (Nrm.ret1 rfl (fun _ h => h) rfl fun B _ => Sub.refl _)
end Go.Proofs.Ytpfnclecageleaa
