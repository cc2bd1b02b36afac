/-
  FrameKeeps: what comes out is memory of its own.
-/
import Derived.Test.YtdfdhhepbkejpaaFrameJoin
import Derived.Test.YtdfdhhepbkejpaaFreeScrib
set_option linter.unusedSimpArgs false
set_option linter.unusedVariables false
namespace Go.Proofs.Ytdfdhhepbkejpaa
open Go.Free Go.RowKit Go.Proofs
set_option maxHeartbeats 4000000

abbrev vi (x : Int) : Value := .int .i64 x
/-- The values of the rows, as they lie in the outer row. -/
theorem dens_at {w : World} {B : Nat} : ∀ {ls : List (List UInt8)} {vs : List Value}, Fa.dens (ls.map (ownB B)) w vs → vs.length = ls.length ∧ ∀ (i : Nat) l, ls[i]? = some l → ∃ v, vs[i]? = some v ∧ ownH B 5 1 (bs l) w v
  | [], vs, h => by simp only [List.map_nil, Fa.dens] at h; subst h; simp
  | l :: ls, vs, h => by
    simp only [List.map_cons, Fa.dens] at h
    obtain ⟨y, ys, rfl, h1, h2⟩ := h
    obtain ⟨h3, h4⟩ := dens_at h2
    refine ⟨by simp [h3], fun i l' hl' => ?_⟩
    cases i with
    | zero => simp only [List.getElem?_cons_zero, Option.some.injEq] at hl'; subst hl'; exact ⟨y, rfl, h1⟩
    | succ i => exact h4 i l' hl'
theorem own_slice {B e : Nat} {cs : List Value} {w : World} {v : Value} (h : ownH B e 1 cs w v) : ∃ A c, v = .slice A cs.length c ∧ (0 < cs.length → ∃ g, A = some ⟨g, 0, none⟩) := by
  obtain ⟨_, n, hl, h⟩ := h
  rw [Nat.mul_one] at hl
  rcases h with ⟨rfl, rfl⟩ | ⟨g, cap, cur, rfl, _⟩
  · exact ⟨none, 0, by rw [hl], fun hn => by omega⟩
  · exact ⟨_, _, by rw [hl], fun _ => ⟨g, rfl⟩⟩
theorem wrapU8 (x : Int) : IntKind.u8.wrap x = ((UInt8.ofNat (x % 256).toNat).toNat : Int) := by
  rw [IntKind.wrap_u8]; simp; omega
theorem own_block {B e sz : Nat} {cs : List Value} {w : World} {v : Value} {b : Nat} (h : ownH B e sz cs w v) (hb : v.ownBlock = some b) : B ≤ b ∧ ∃ cur, w.heap[b]? = some (.cells cur e (0, 0)) := by
  obtain ⟨_, n, hl, h⟩ := h
  rcases h with ⟨rfl, rfl⟩ | ⟨g, cap, cur, rfl, hB, hg, _⟩
  · cases hb
  · cases hb; exact ⟨hB, cur, hg⟩
theorem own_rowcell {B e : Nat} {cs : List Value} {w : World} {g n c i : Nat} {v : Value} (h : ownH B e 1 cs w (.slice (some ⟨g, 0, none⟩) n c)) (hv : cs[i]? = some v) : w.cell? ⟨g, i, none⟩ = some v := by
  obtain ⟨A, n', c', he, _, _, _, _, h5⟩ := own_row h
  cases he
  obtain ⟨ad, hA, hc⟩ := h5 i v hv
  cases hA
  rwa [add_at, Nat.zero_add] at hc

abbrev kpH (w3 : World) (G : Nat → Prop) (A3 : Option Addr) (c3 : Nat) (vs : List Value) (ls : List (List UInt8)) : Fa := heap (fun b => G b ∨ w3.heap.size ≤ b) [scrC (.slice A3 (frames ls).length c3 :: vs)]
def kpO (w0 w2 w3 : World) (G : Nat → Prop) (A3 A5 : Option Addr) (c3 c5 : Nat) (vs : List Value) (ls : List (List UInt8)) (i : Nat) : Env :=
  [(0, .old w0 (row 1 (ss ls))), (3, .ex (.slice A3 (frames ls).length c3)), (5, .ex (.slice A5 ls.length c5)), (8, .old w3 (nestB w2.heap.size ls)), (10, .ex (.bool true)), (36, .ex (vi ls.length)), (37, .ex (vi i)), (1000, kpH w3 G A3 c3 vs ls)]
def kpI (w0 w2 w3 : World) (G : Nat → Prop) (A3 A5 : Option Addr) (c3 c5 : Nat) (vs : List Value) (ls : List (List UInt8)) (i m k : Nat) : Env :=
  [(0, .old w0 (row 1 (ss ls))), (3, .ex (.slice A3 (frames ls).length c3)), (5, .ex (.slice A5 ls.length c5)), (8, .old w3 (nestB w2.heap.size ls)), (10, .ex (.bool true)), (11, .ex (vi i)), (36, .ex (vi ls.length)), (37, .ex (vi i)), (44, .ex (vi m)), (45, .ex (vi k)), (1000, kpH w3 G A3 c3 vs ls)]
def kpB (w0 w2 w3 : World) (G : Nat → Prop) (A3 : Option Addr) (c3 : Nat) (vs : List Value) (ls : List (List UInt8)) (k : Nat) : Env :=
  [(0, .old w0 (row 1 (ss ls))), (3, .ex (.slice A3 (frames ls).length c3)), (8, .old w3 (nestB w2.heap.size ls)), (10, .ex (.bool true)), (60, .ex (vi (frames ls).length)), (61, .ex (vi k)), (1000, kpH w3 G A3 c3 vs ls)]
theorem lawFKeeps (ls : List (List UInt8)) (hl : ls.length ≤ 9223372036854775807) : Spc Try.prog 11 [row 1 (ss ls)] fun _ => .ex (.bool true) := by
  refine Spc.intro Try.func11 rfl (Nat.le_of_ble_eq_true rfl) fun w0 => ?_
  have hI := hIb w0
  repeat (first | refine Plan.assign rfl rfl rfl rfl ?_ | refine J.seq (J.region mixed hI (by kernel_rfl) ?_) | refine J.seq (J.seq (J.region mixed hI (by kernel_rfl) ?_)))
  refine Plan.call (B := w0.heap.size) rfl rfl rfl (awakeF) Try.func24 rfl rfl (hBb w0) (by repeat (exact Opnds.nil)) ?_
  repeat (first | refine Plan.move rfl rfl rfl rfl ?_ | refine Plan.un rfl rfl rfl rfl rfl ?_ | refine J.seq (J.region mixed hI (by kernel_rfl) ?_) | refine J.condF rfl ?_ | refine J.skip ?_)
  cases ha : laidOk ls with
  | false =>
    refine Plan.call (B := w0.heap.size) rfl rfl rfl (laid_no hl ha) Try.func32 rfl rfl (hBb w0) (by repeat (first | exact Opnds.nil | refine Opnds.cons rfl (by exact Sub.old (fun _ h => h)) ?_)) ?_
    repeat (first | refine Plan.move rfl rfl rfl rfl ?_ | refine Plan.assign rfl rfl rfl rfl ?_ | refine Plan.extract rfl rfl rfl rfl rfl ?_ | refine Plan.un rfl rfl rfl rfl rfl ?_ | refine J.seq (J.region mixed hI (by kernel_rfl) ?_) | refine J.seq (J.seq (J.region mixed hI (by kernel_rfl) ?_)) | refine J.condT rfl ?_)
    exact J.ret (Nrm.ret1 rfl (fun _ h => h) rfl fun B _ => Sub.refl _)
  | true =>
  have ha' := of_decide_eq_true ha
  have hfa := frames_le ha'.2
  have hla : ∀ x ∈ ls, x.length ≤ 65529 := fun x hx => by have := ha'.2 x hx; omega
  refine Plan.call (B := w0.heap.size) rfl rfl rfl (laid_yes hl ha) Try.func32 rfl rfl (hBb w0) (by repeat (first | exact Opnds.nil | refine Opnds.cons rfl (by exact Sub.old (fun _ h => h)) ?_)) ?_
  repeat (first | refine Plan.move rfl rfl rfl rfl ?_ | refine Plan.assign rfl rfl rfl rfl ?_ | refine Plan.extract rfl rfl rfl rfl rfl ?_ | refine Plan.un rfl rfl rfl rfl rfl ?_ | refine J.seq (J.region mixed hI (by kernel_rfl) ?_) | refine J.seq (J.seq (J.region mixed hI (by kernel_rfl) ?_)) | refine J.condF rfl ?_ | refine J.skip ?_)
  refine Plan.call (B := w0.heap.size) rfl rfl rfl (frame_ScanAll hla (by omega)) Try.func29 rfl rfl (hBb w0) (by repeat (first | exact Opnds.nil | refine Opnds.cons rfl (by exact Sub.own) ?_)) ?_
  repeat (first | refine Plan.move rfl rfl rfl rfl ?_ | refine Plan.assign rfl rfl rfl rfl ?_ | refine Plan.extract rfl rfl rfl rfl rfl ?_)
  refine J.mark fun w2 hw2 => ?_
  have hI := hIb w2
  repeat (first | refine Plan.move rfl rfl rfl rfl ?_ | refine J.seq (J.region mixed hI (by kernel_rfl) ?_))
  refine Plan.call (B := w2.heap.size) rfl rfl rfl (frame_ScanAll hla (by omega)) Try.func29 rfl rfl (hBb w2) (by repeat (first | exact Opnds.nil | refine Opnds.cons rfl (by exact Sub.oldOwn (fun _ h => h)) ?_)) ?_
  repeat (first | refine Plan.move rfl rfl rfl rfl ?_ | refine Plan.assign rfl rfl rfl rfl ?_ | refine Plan.extract rfl rfl rfl rfl rfl ?_)
  refine J.mark fun w3 hw3 => ?_
  refine J.nameOld (t := 3) rfl fun u3 hu3 => ?_
  refine J.nameOld (t := 5) rfl fun u5 hu5 => ?_
  obtain ⟨vs, hv5, hd⟩ := hu5
  obtain ⟨hvl, hvs⟩ := dens_at hd
  have hu3 : ownH w0.heap.size 5 1 (bs (frames ls)) w2 u3 := hu3
  have hv5 : ownH w0.heap.size 27 1 vs w2 u5 := hv5
  obtain ⟨G, hG⟩ : ∃ G : Nat → Prop, G = fun b => ∃ v ∈ u3 :: vs, v.ownBlock = some b := ⟨_, rfl⟩
  have hmem : ∀ v ∈ u3 :: vs, ∃ l, ownH w0.heap.size 5 1 (bs l) w2 v := fun v hv => by
    rcases List.mem_cons.1 hv with rfl | hv
    · exact ⟨_, hu3⟩
    · obtain ⟨i, hi, rfl⟩ := List.getElem_of_mem hv
      obtain ⟨v', h1, h2⟩ := hvs i ls[i] (List.getElem?_eq_getElem (by omega))
      rw [List.getElem?_eq_getElem hi] at h1
      cases h1
      exact ⟨_, h2⟩
  have hGb : ∀ b, G b → w0.heap.size ≤ b ∧ ∃ cur, w2.heap[b]? = some (.cells cur 5 (0, 0)) := fun b hb => by
    rw [hG] at hb
    obtain ⟨v, hv, hvb⟩ := hb
    obtain ⟨l, hl⟩ := hmem v hv
    exact own_block hl hvb
  have hG2 : ∀ b, G b → b < w2.heap.size := fun b hb => by
    obtain ⟨_, cur, hc⟩ := hGb b hb
    exact (Array.getElem?_eq_some_iff.1 hc).1
  have hb23 : Below w2.heap.size w2 w3 := hw3
  have b3 : ∀ w, Kept G w3 w → Below w0.heap.size w0 w := fun w h => kept_beyond (hIb w0 _ _ hw2 hw3) (fun b hb => (hGb b hb).1) h
  refine J.lay 1000 (fun b => G b ∨ w3.heap.size ≤ b) [scrC (u3 :: vs)] (fun w h => ⟨fun q b => q = 0 ∧ G b, Lies.one ⟨fun v hv => ?_, fun b => by rw [hG]⟩, fun q b hb => .inl hb.2⟩) ?_
  · obtain ⟨l, hl⟩ := hmem v hv
    exact scrOk_own (ownH_mono (hIb w2 _ _ hb23 h) hl)
  refine J.idle (I' := fun w => Kept G w3 w) (fun w h => .ofBelow h) ?_
  have hI := kept_below G w3
  have hA := Own.kept G w3
  have known : ∀ (g n c i : Nat) (v : Value), u5 = .slice (some ⟨g, 0, none⟩) n c → vs[i]? = some v → ∀ w, Kept G w3 w → w.cell? ⟨g, i, none⟩ = some v := fun g n c i v hu hv w hk => by
    subst hu
    have h1 := own_rowcell hv5 hv
    obtain ⟨_, cur, hc⟩ := own_block hv5 (b := g) rfl
    have hlt : g < w2.heap.size := (Array.getElem?_eq_some_iff.1 hc).1
    have hn : ¬ G g := fun hg => by
      obtain ⟨_, cur2, hc2⟩ := hGb g hg
      rw [hc] at hc2; cases hc2
    have h2 : w.heap[g]? = w2.heap[g]? := by rw [hk.block g (Nat.lt_of_lt_of_le hlt hb23.size) hn, hb23.block g hlt]
    simp only [World.cell?] at h1 ⊢
    rw [h2]; exact h1
  obtain ⟨A5, c5, rfl, hA5⟩ := own_slice hv5
  obtain ⟨A3, c3, rfl, hA3⟩ := own_slice hu3
  rw [bs_length] at hA3 ⊢
  rw [hvl] at hA5 known ⊢
  repeat (fail)
  refine J.seq (J.seq (J.region mixed hI (by kernel_rfl) ?_))
  repeat (refine Plan.move rfl rfl rfl rfl ?_)
  refine Plan.lenE rfl rfl rfl rfl Try.underlying45 ?_
  repeat (refine Plan.move rfl rfl rfl rfl ?_)
  refine J.block (J.loop (kpO w0 w2 w3 G A3 A5 c3 c5 vs ls) (fun i => i ≤ ls.length) (fun i => ls.length - i) 0 (Nat.zero_le _) ?_ ?_)
  · repeat (first | exact Weak.nil | refine Weak.cons rfl (Sub.refl _) ?_)
  intro i hi
  repeat (first | (refine Plan.ints rfl rfl rfl rfl rfl rfl ?_; (skip)) | refine J.seq (J.region mixed hI (by kernel_rfl) ?_))
  refine J.seq (J.condD rfl (fun hlt => ?_) (fun hlt => ?_))
  · have hlt' : i < ls.length := by omega
    obtain ⟨g5, rfl⟩ := hA5 (by omega)
    obtain ⟨vx, hvi, hoi⟩ := hvs i ls[i] (List.getElem?_eq_getElem hlt')
    obtain ⟨Ai, ci, rfl, hAi⟩ := own_slice hoi
    rw [bs_length] at hAi
    have hin : Value.slice Ai (bs ls[i]).length ci ∈ vs := List.mem_of_getElem? hvi
    rw [bs_length] at hin hvi
    have hki := known g5 _ _ i _ rfl hvi
    have hx := ha'.2 ls[i] (List.getElem_mem hlt')
    repeat (refine J.skip ?_)
    refine J.seq (J.block ?_)
    repeat (first | refine Plan.move rfl rfl rfl rfl ?_ | refine Plan.assign rfl rfl rfl rfl ?_ | refine J.seq (J.region mixed hI (by kernel_rfl) ?_))
    refine Plan.indexC (off := i) rfl rfl rfl rfl rfl eltBB hlt' (by omega) ?_
    refine Plan.loadKnown rfl rfl rfl rfl hki Try.underlying27 rfl ?_
    repeat (first | refine Plan.move rfl rfl rfl rfl ?_ | refine Plan.lenE rfl rfl rfl rfl Try.underlying27 ?_)
    refine J.block (J.loop (kpI w0 w2 w3 G A3 (some ⟨g5, 0, none⟩) c3 c5 vs ls i ls[i].length) (fun k => k ≤ ls[i].length) (fun k => ls[i].length - k) 0 (Nat.zero_le _) ?_ ?_)
    · repeat (first | exact Weak.nil | refine Weak.cons rfl (Sub.refl _) ?_)
    intro k hk
    repeat (first | (refine Plan.ints rfl rfl rfl rfl rfl rfl ?_; (skip)) | refine J.seq (J.region mixed hI (by kernel_rfl) ?_))
    refine J.seq (J.condD rfl (fun hlt2 => ?_) (fun hlt2 => ?_))
    · have hk' : k < ls[i].length := by omega
      obtain ⟨gi, rfl⟩ := hAi (by omega)
      repeat (refine J.skip ?_)
      refine J.seq (J.block ?_)
      refine J.convC (key := 1000) (q := 0) rfl rfl (scr_see (List.mem_cons_of_mem _ hin) hk') ?_
      refine J.exC (key := 1000) (q := 0) rfl rfl fun b => ?_
      repeat (first | refine Plan.move rfl rfl rfl rfl ?_ | refine Plan.assign rfl rfl rfl rfl ?_ | refine J.seq (J.region mixed hI (by kernel_rfl) ?_) | refine J.region mixed hI (by kernel_rfl) ?_)
      refine Plan.indexC (off := i) rfl rfl rfl rfl rfl eltBB hlt' (by omega) ?_
      refine Plan.loadKnown rfl rfl rfl rfl hki Try.underlying27 rfl ?_
      repeat (refine Plan.move rfl rfl rfl rfl ?_)
      refine Plan.indexC (off := k) rfl rfl rfl rfl rfl eltB hk' (by omega) ?_
      refine Plan.loadC (key := 1000) (q := 0) rfl rfl rfl rfl rfl rfl scrAt_reads Try.underlying5 rfl (by decide) ?_
      refine Plan.ints rfl rfl rfl rfl rfl rfl ?_
      refine Plan.int (wrapU8 _) ?_
      refine Plan.indexC (off := k) rfl rfl rfl rfl rfl eltB hk' (by omega) ?_
      refine Plan.storeX (key := 1000) (q := 0) rfl rfl rfl rfl rfl rfl (by simp [Value.cells, Value.oneCell']) (by kernel_rfl) rfl hA rfl scrAt_pat ?_
      repeat (first | refine Plan.move rfl rfl rfl rfl ?_ | (refine Plan.ints rfl rfl rfl rfl rfl rfl ?_; (refine Plan.int (i64r (by omega)) ?_)) | refine J.region mixed hI (by kernel_rfl) ?_)
      refine Plan.int (y := ((k + 1 : Nat) : Int)) (by omega) ?_
      repeat (fail)
      refine Nrm.next (k + 1) (by omega) (by omega) ?_
      repeat (first | exact Weak.nil | refine Weak.cons rfl (Sub.refl _) ?_)
    · refine J.exit ?_
      repeat (first | refine Plan.move rfl rfl rfl rfl ?_ | (refine Plan.ints rfl rfl rfl rfl rfl rfl ?_; (refine Plan.int (i64r (by omega)) ?_)) | refine J.region mixed hI (by kernel_rfl) ?_)
      refine Plan.int (y := ((i + 1 : Nat) : Int)) (by omega) ?_
      repeat (fail)
      refine Nrm.next (i + 1) (by omega) (by omega) ?_
      repeat (first | exact Weak.nil | refine Weak.cons rfl (Sub.refl _) ?_)
  refine J.exit ?_
  repeat (first | refine Plan.move rfl rfl rfl rfl ?_ | refine Plan.lenE rfl rfl rfl rfl Try.underlying27 ?_ | refine J.seq (J.seq (J.region mixed hI (by kernel_rfl) ?_)))
  refine J.block (J.loop (kpB w0 w2 w3 G A3 c3 vs ls) (fun k => k ≤ (frames ls).length) (fun k => (frames ls).length - k) 0 (Nat.zero_le _) ?_ ?_)
  · repeat (first | exact Weak.nil | refine Weak.cons rfl (Sub.refl _) ?_)
  intro k hk
  repeat (first | (refine Plan.ints rfl rfl rfl rfl rfl rfl ?_; (skip)) | refine J.seq (J.region mixed hI (by kernel_rfl) ?_))
  refine J.seq (J.condD rfl (fun hlt2 => ?_) (fun hlt2 => ?_))
  · have hk' : k < (frames ls).length := by omega
    obtain ⟨g3, rfl⟩ := hA3 (by omega)
    repeat (refine J.skip ?_)
    refine J.seq (J.block ?_)
    refine J.convC (key := 1000) (q := 0) rfl rfl (scr_see (g := g3) (n := (frames ls).length) (cap := c3) List.mem_cons_self hk') ?_
    refine J.exC (key := 1000) (q := 0) rfl rfl fun b => ?_
    repeat (first | refine Plan.move rfl rfl rfl rfl ?_ | refine Plan.assign rfl rfl rfl rfl ?_ | refine J.seq (J.region mixed hI (by kernel_rfl) ?_) | refine J.region mixed hI (by kernel_rfl) ?_)
    refine Plan.indexC (off := k) rfl rfl rfl rfl rfl eltB hk' (by omega) ?_
    refine Plan.storeX (key := 1000) (q := 0) rfl rfl rfl rfl rfl rfl (by simp [Value.cells, Value.oneCell']) (by kernel_rfl) rfl hA rfl (scrAt_pat (c := 0)) ?_
    repeat (first | refine Plan.move rfl rfl rfl rfl ?_ | (refine Plan.ints rfl rfl rfl rfl rfl rfl ?_; (refine Plan.int (i64r (by omega)) ?_)) | refine J.region mixed hI (by kernel_rfl) ?_)
    refine Plan.int (y := ((k + 1 : Nat) : Int)) (by omega) ?_
    repeat (fail)
    refine Nrm.next (k + 1) (by omega) (by omega) ?_
    repeat (first | exact Weak.nil | refine Weak.cons rfl (Sub.refl _) ?_)
  refine J.exit ?_
  repeat (first | refine Plan.move rfl rfl rfl rfl ?_ | refine J.seq (J.region mixed hI (by kernel_rfl) ?_))
  refine Plan.call (B := 0) rfl rfl rfl (law_texts ls ls hl hl) Try.func31 rfl rfl (fun _ _ => Nat.zero_le _) (Opnds.cons rfl ?_ (Opnds.cons rfl (Sub.old b3) Opnds.nil)) ?_
  · rintro w v hk ⟨vs', h1, h2⟩
    exact ⟨vs', own_row (ownH_kept hk hG2 h1), dens_map (F := ownB w2.heap.size) (G := bytesF) (fun l v hv => own_row hv) (dens_imp (fun f hf v hv => by
      obtain ⟨l, _, rfl⟩ := List.mem_map.1 hf
      exact ownH_kept hk hG2 hv) h2)⟩
  refine Plan.isT rfl ?_
  repeat (first | refine Plan.assign rfl rfl rfl rfl ?_ | refine Plan.pick rfl rfl rfl rfl rfl ?_)
  exact J.ret (Nrm.ret1 rfl b3 rfl fun B _ => Sub.refl _)
end Go.Proofs.Ytdfdhhepbkejpaa
