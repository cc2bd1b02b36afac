/-
  Events: the value of an event, and which of two is later.
-/
import Derived.Test.YtkhcjedlopiicaaFlatEq
set_option linter.unusedSimpArgs false
set_option linter.unusedVariables false
set_option maxRecDepth 20000
namespace Go.Proofs.Ytkhcjedlopiicaa
open Go.Free Go.RowKit Go.Proofs
set_option maxHeartbeats 2000000

def in64 (x : Int) : Prop := -9223372036854775808 ≤ x ∧ x ≤ 9223372036854775807
structure EvV where
  r : Int
  n : Int
  time : Int
  d : Nat → Int
  kind : Int
  key : List UInt8
  field : List UInt8
  value : List UInt8
  num : Int
  rr : Int
  rn : Int
abbrev vi (x : Int) : Value := .int .i64 x
def EvV.enc (e : EvV) : List Value := [vi e.r, vi e.n, vi e.time, vi (e.d 0), vi (e.d 1), vi (e.d 2), vi (e.d 3), vi (e.d 4), vi (e.d 5), vi (e.d 6), vi (e.d 7), vi (e.d 8), vi (e.d 9), vi (e.d 10), vi (e.d 11), vi (e.d 12), vi (e.d 13), vi (e.d 14), vi (e.d 15),
  vi e.kind, str e.key, str e.field, str e.value, vi e.num, vi e.rr, vi e.rn]
def EvV.okV (e : EvV) : Prop := in64 e.r ∧ in64 e.n ∧ in64 e.time ∧ (∀ i, i < 16 → in64 (e.d i)) ∧ in64 e.kind ∧ e.key.length ≤ 9223372036854775807 ∧ e.field.length ≤ 9223372036854775807 ∧ e.value.length ≤ 9223372036854775807 ∧ in64 e.num ∧ in64 e.rr ∧ in64 e.rn
def ev0 : EvV := ⟨0, 0, 0, fun _ => 0, 0, [], [], [], 0, 0, 0⟩
theorem encE (e : EvV) : e.enc.length = 26 := rfl
def kdsEvent : List Kd := [.int .i64, .int .i64, .int .i64, .int .i64, .int .i64, .int .i64, .int .i64, .int .i64, .int .i64, .int .i64, .int .i64, .int .i64, .int .i64, .int .i64, .int .i64, .int .i64, .int .i64, .int .i64, .int .i64, .int .i64, .str, .str, .str, .int .i64, .int .i64, .int .i64]
theorem eltE : Elt Try.prog 73 86 (.agg ev0.enc.toArray) 26 232 := Elt.mk' Try.underlying73 (by kernel_rfl) rfl (by decide) (by decide)
theorem in64_wf {n : Int} : (Lit.int .i64 n).wf = true ↔ in64 n := by
  have k1 : IntKind.min .i64 = -9223372036854775808 := by decide +kernel
  have k2 : IntKind.max .i64 = 9223372036854775807 := by decide +kernel
  simp [Lit.wf, k1, k2, in64]
theorem str_len {s : ByteArray} (h : s.size ≤ maxLen) : s.data.toList.length ≤ 9223372036854775807 := by
  simp only [maxLen, ByteArray.size] at h
  simp only [Array.length_toList]; omega
theorem str_mk (s : ByteArray) : (Value.string s) = str s.data.toList := by simp [str]
theorem intF {x : Int} (h : in64 x) : (Kd.int .i64).ok (vi x) := ⟨x, rfl, in64_wf.2 h⟩
theorem strF {l : List UInt8} (h : l.length ≤ 9223372036854775807) : Kd.str.ok (str l) := ⟨_, rfl, by simpa [maxLen, ByteArray.size] using h⟩
theorem enc_ok {e : EvV} (h : e.okV) : CellsOk kdsEvent e.enc := by
  obtain ⟨h1, h2, h3, hd, h4, h5, h6, h7, h8, h9, h10⟩ := h
  exact ⟨_, _, rfl, intF h1, _, _, rfl, intF h2, _, _, rfl, intF h3, _, _, rfl, intF (hd 0 (by decide)), _, _, rfl, intF (hd 1 (by decide)), _, _, rfl, intF (hd 2 (by decide)), _, _, rfl, intF (hd 3 (by decide)),
    _, _, rfl, intF (hd 4 (by decide)), _, _, rfl, intF (hd 5 (by decide)), _, _, rfl, intF (hd 6 (by decide)), _, _, rfl, intF (hd 7 (by decide)), _, _, rfl, intF (hd 8 (by decide)), _, _, rfl, intF (hd 9 (by decide)),
    _, _, rfl, intF (hd 10 (by decide)), _, _, rfl, intF (hd 11 (by decide)), _, _, rfl, intF (hd 12 (by decide)), _, _, rfl, intF (hd 13 (by decide)), _, _, rfl, intF (hd 14 (by decide)), _, _, rfl, intF (hd 15 (by decide)),
    _, _, rfl, intF h4, _, _, rfl, strF h5, _, _, rfl, strF h6, _, _, rfl, strF h7, _, _, rfl, intF h8, _, _, rfl, intF h9, _, _, rfl, intF h10, rfl⟩
theorem ev_of {c : List Value} (h : CellsOk kdsEvent c) : ∃ e : EvV, c = e.enc ∧ e.okV := by
  obtain ⟨_, _, rfl, ⟨r, rfl, hr⟩, _, _, rfl, ⟨n, rfl, hn⟩, _, _, rfl, ⟨t, rfl, ht⟩, _, _, rfl, ⟨d0, rfl, g0⟩, _, _, rfl, ⟨d1, rfl, g1⟩, _, _, rfl, ⟨d2, rfl, g2⟩, _, _, rfl, ⟨d3, rfl, g3⟩,
    _, _, rfl, ⟨d4, rfl, g4⟩, _, _, rfl, ⟨d5, rfl, g5⟩, _, _, rfl, ⟨d6, rfl, g6⟩, _, _, rfl, ⟨d7, rfl, g7⟩, _, _, rfl, ⟨d8, rfl, g8⟩, _, _, rfl, ⟨d9, rfl, g9⟩, _, _, rfl, ⟨d10, rfl, g10⟩, _, _, rfl, ⟨d11, rfl, g11⟩,
    _, _, rfl, ⟨d12, rfl, g12⟩, _, _, rfl, ⟨d13, rfl, g13⟩, _, _, rfl, ⟨d14, rfl, g14⟩, _, _, rfl, ⟨d15, rfl, g15⟩, _, _, rfl, ⟨k, rfl, hk⟩, _, _, rfl, ⟨a, rfl, ha⟩, _, _, rfl, ⟨b, rfl, hb⟩, _, _, rfl, ⟨c, rfl, hc⟩,
    _, _, rfl, ⟨m, rfl, hm⟩, _, _, rfl, ⟨p, rfl, hp⟩, _, _, rfl, ⟨q, rfl, hq⟩, rfl⟩ := h
  refine ⟨⟨r, n, t, fun i => [d0, d1, d2, d3, d4, d5, d6, d7, d8, d9, d10, d11, d12, d13, d14, d15].getD i 0, k, a.data.toList, b.data.toList, c.data.toList, m, p, q⟩, ?_, in64_wf.1 hr, in64_wf.1 hn, in64_wf.1 ht, ?_, in64_wf.1 hk, str_len ha, str_len hb, str_len hc, in64_wf.1 hm, in64_wf.1 hp, in64_wf.1 hq⟩
  · simp [EvV.enc, str_mk]
  · intro i hi
    match i, hi with
    | 0, _ => exact in64_wf.1 g0
    | 1, _ => exact in64_wf.1 g1
    | 2, _ => exact in64_wf.1 g2
    | 3, _ => exact in64_wf.1 g3
    | 4, _ => exact in64_wf.1 g4
    | 5, _ => exact in64_wf.1 g5
    | 6, _ => exact in64_wf.1 g6
    | 7, _ => exact in64_wf.1 g7
    | 8, _ => exact in64_wf.1 g8
    | 9, _ => exact in64_wf.1 g9
    | 10, _ => exact in64_wf.1 g10
    | 11, _ => exact in64_wf.1 g11
    | 12, _ => exact in64_wf.1 g12
    | 13, _ => exact in64_wf.1 g13
    | 14, _ => exact in64_wf.1 g14
    | 15, _ => exact in64_wf.1 g15
    | _ + 16, h => exact absurd h (by omega)
theorem evs_of : ∀ (ls : List (List Value)), (∀ c ∈ ls, CellsOk kdsEvent c) → ∃ es : List EvV, es.length = ls.length ∧ ls.flatten = es.flatMap EvV.enc ∧ ∀ e ∈ es, e.okV
  | [], _ => ⟨[], rfl, rfl, by simp⟩
  | c :: r, h => by
    obtain ⟨o, rfl, ho⟩ := ev_of (h c List.mem_cons_self)
    obtain ⟨sc, h1, h2, h3⟩ := evs_of r (fun c hc => h c (List.mem_cons_of_mem _ hc))
    exact ⟨o :: sc, by simp [h1], by simp [h2], fun x hx => by rcases List.mem_cons.1 hx with rfl | hx; exact ho; exact h3 x hx⟩

abbrev aggE (e : EvV) : Value := .agg e.enc.toArray
abbrev newB (w0 : World) : Nat → Prop := fun b => w0.heap.size ≤ b
/-- b is later than a. -/
def later (b a : EvV) : Bool := decide (a.time < b.time ∨ (a.time = b.time ∧ (a.r < b.r ∨ (a.r = b.r ∧ a.n < b.n))))
def cmp3 (x y : Int) : Int := if x < y then -1 else if y < x then 1 else 0
theorem isNaN_fn (x : Int) : Spc Try.prog 94 [.ex (vi x)] fun _ => .ex (.bool false) := by
  refine Spc.intro Try.func94 rfl (Nat.le_of_ble_eq_true rfl) fun w0 => ?_
  have hI := hIb w0
  repeat (first | refine Plan.move rfl rfl rfl rfl ?_ | refine Plan.assign rfl rfl rfl rfl ?_ | (refine Plan.ints rfl rfl rfl rfl rfl rfl ?_; (skip)) | refine J.seq (J.region mixed hI (by kernel_rfl) ?_))
  refine Plan.boolv (y := false) (by simp) ?_
  repeat (fail)
  exact J.ret (Nrm.ret1 rfl (fun _ h => h) rfl fun B _ => Sub.refl _)
theorem compare_fn (x y : Int) : Spc Try.prog 72 [.ex (vi x), .ex (vi y)] fun _ => .ex (vi (cmp3 x y)) := by
  refine Spc.intro Try.func72 rfl (Nat.le_of_ble_eq_true rfl) fun w0 => ?_
  have hI := hIb w0
  repeat (first | refine Plan.move rfl rfl rfl rfl ?_ | refine Plan.assign rfl rfl rfl rfl ?_ | refine J.seq (J.region mixed hI (by kernel_rfl) ?_))
  refine Plan.call (B := w0.heap.size) rfl rfl rfl (isNaN_fn x) Try.func94 rfl rfl (hBb w0) (by repeat (first | exact Opnds.nil | refine Opnds.cons rfl (by exact Sub.refl _) ?_)) ?_
  repeat (first | refine Plan.move rfl rfl rfl rfl ?_ | refine Plan.assign rfl rfl rfl rfl ?_ | refine J.seq (J.region mixed hI (by kernel_rfl) ?_))
  refine Plan.call (B := w0.heap.size) rfl rfl rfl (isNaN_fn y) Try.func94 rfl rfl (hBb w0) (by repeat (first | exact Opnds.nil | refine Opnds.cons rfl (by exact Sub.refl _) ?_)) ?_
  repeat (first | refine Plan.move rfl rfl rfl rfl ?_ | refine Plan.assign rfl rfl rfl rfl ?_ | (refine Plan.ints rfl rfl rfl rfl rfl rfl ?_; (skip)) | refine J.seq (J.seq (J.region mixed hI (by kernel_rfl) ?_)) | refine J.condF rfl ?_ | refine J.skip ?_)
  refine J.condD rfl (fun h => ?_) (fun h => ?_)
  · have e : cmp3 x y = -1 := by unfold cmp3; rw [if_pos h]
    rw [e]
    repeat (first | refine Plan.assign rfl rfl rfl rfl ?_ | refine J.seq (J.region mixed hI (by kernel_rfl) ?_))
    exact J.ret (Nrm.ret1 rfl (fun _ h => h) rfl fun B _ => Sub.refl _)
  repeat (first | refine Plan.move rfl rfl rfl rfl ?_ | (refine Plan.ints rfl rfl rfl rfl rfl rfl ?_; (skip)) | refine J.seq (J.seq (J.region mixed hI (by kernel_rfl) ?_)) | refine J.skip ?_)
  refine J.condD rfl (fun h2 => ?_) (fun h2 => ?_)
  · have e : cmp3 x y = 1 := by unfold cmp3; rw [if_neg h, if_pos (by omega)]
    rw [e]
    repeat (first | refine Plan.assign rfl rfl rfl rfl ?_ | refine J.seq (J.region mixed hI (by kernel_rfl) ?_))
    exact J.ret (Nrm.ret1 rfl (fun _ h => h) rfl fun B _ => Sub.refl _)
  · have e : cmp3 x y = 0 := by unfold cmp3; rw [if_neg h, if_neg (by omega)]
    rw [e]
    repeat (first | refine Plan.assign rfl rfl rfl rfl ?_ | refine J.seq (J.region mixed hI (by kernel_rfl) ?_) | refine J.skip ?_)
    exact J.ret (Nrm.ret1 rfl (fun _ h => h) rfl fun B _ => Sub.refl _)
def firstN : List Int → Int
  | [] => 0
  | x :: r => if x = 0 then firstN r else x
abbrev is (l : List Int) : List Value := l.flatMap fun x => [vi x]
theorem eltI : Elt Try.prog 138 3 (vi 0) 1 8 := Elt.mk' Try.underlying138 (by kernel_rfl) rfl (by decide) (by decide)
theorem or_fn (l : List Int) (hl : l.length ≤ 9223372036854775807) : Spc Try.prog 71 [row 1 (is l)] fun _ => .ex (vi (firstN l)) := by
  refine Spc.intro Try.func71 rfl (Nat.le_of_ble_eq_true rfl) fun w0 => ?_
  have hI := hIb w0
  repeat (first | refine Plan.move rfl rfl rfl rfl ?_ | refine Plan.assign rfl rfl rfl rfl ?_ | refine J.seq (J.region mixed hI (by kernel_rfl) ?_) | refine J.seq (J.seq (J.region mixed hI (by kernel_rfl) ?_)))
  refine Plan.lenRow (m := l.length) rfl rfl rfl rfl (Sub.old fun _ h => h) Try.underlying138 (by rw [flatMap_length _ 1 (fun _ => rfl)]) (by decide) ?_
  repeat (refine Plan.move rfl rfl rfl rfl ?_)
  refine J.block (J.loop (fun i : Nat => [(3, .ex (vi 0)), (6, old w0 (row 1 (is l))), (7, .ex (vi l.length)), (8, .ex (vi i))]) (fun i => i ≤ l.length ∧ firstN (l.drop i) = firstN l) (fun i => l.length - i) 0 ⟨Nat.zero_le _, rfl⟩ ?_ ?_)
  · repeat (first | exact Weak.nil | refine Weak.cons rfl (Sub.refl _) ?_)
  rintro i ⟨hi, hf⟩
  repeat (first | (refine Plan.ints rfl rfl rfl rfl rfl rfl ?_; (skip)) | refine J.seq (J.region mixed hI (by kernel_rfl) ?_))
  refine J.seq (J.condD rfl (fun hlt => ?_) (fun hlt => ?_))
  · have hlt' : i < l.length := by omega
    have hget : l.getD i 0 = l[i] := by simp [List.getD_eq_getElem?_getD, List.getElem?_eq_getElem hlt']
    rw [List.drop_eq_getElem_cons hlt'] at hf
    repeat (refine J.skip ?_)
    refine J.seq (J.block ?_)
    repeat (refine J.seq (J.region mixed hI (by kernel_rfl) ?_))
    refine Plan.indexAddr (fun x => [vi x]) 1 l 0 rfl rfl rfl rfl (Sub.old fun _ h => h) rfl eltI (fun _ => rfl) (by omega) (by omega) ?_
    rw [Int.toNat_natCast, hget]
    refine Plan.load rfl rfl rfl rfl (Sub.refl _) Try.underlying3 rfl ?_
    repeat (first | refine Plan.move rfl rfl rfl rfl ?_ | refine Plan.assign rfl rfl rfl rfl ?_ | (refine Plan.ints rfl rfl rfl rfl rfl rfl ?_; (skip)) | refine J.seq (J.region mixed hI (by kernel_rfl) ?_))
    refine J.condN rfl (fun h => ?_) (fun h => ?_)
    · have e : l[i] = firstN l := by rw [← hf]; unfold firstN; rw [if_neg h]
      repeat (first | refine Plan.move rfl rfl rfl rfl ?_ | refine Plan.assign rfl rfl rfl rfl ?_ | refine J.seq (J.region mixed hI (by kernel_rfl) ?_))
      exact J.ret (Nrm.ret1 rfl (fun _ h => h) rfl fun B _ => Sub.of_eq (by rw [e]))
    · repeat (first | refine Plan.move rfl rfl rfl rfl ?_ | (refine Plan.ints rfl rfl rfl rfl rfl rfl ?_; (refine Plan.int (i64r (by omega)) ?_)) | refine J.region mixed hI (by kernel_rfl) ?_ | refine J.skip ?_)
      refine Plan.int (y := ((i + 1 : Nat) : Int)) (by omega) ?_
      refine Nrm.next (i + 1) ⟨hlt', ?_⟩ (by omega) (by repeat (first | exact Weak.nil | refine Weak.cons rfl (Sub.refl _) ?_))
      rw [← hf]; simp [firstN, h]
  · have hie : i = l.length := by omega
    subst hie
    rw [List.drop_length] at hf
    refine J.exit ?_
    repeat (first | refine Plan.move rfl rfl rfl rfl ?_ | refine Plan.assign rfl rfl rfl rfl ?_ | refine J.seq (J.region mixed hI (by kernel_rfl) ?_))
    exact J.ret (Nrm.ret1 rfl (fun _ h => h) rfl fun B _ => Sub.of_eq (by rw [← hf]; rfl))
end Go.Proofs.Ytkhcjedlopiicaa
