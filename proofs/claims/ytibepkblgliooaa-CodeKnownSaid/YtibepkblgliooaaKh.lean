/- What a proof further on needs (part h). -/
import Derived.Test.YtibepkblgliooaaKg
set_option linter.unusedVariables false
namespace Go.Proofs.Ytibepkblgliooaa.Q
open Go.RowKit
open Go.Proofs.YtibepkblgliooaaW.PrintWords
def spCells (l : List Sp) : List Value := l.flatMap fun p => [.int .i64 p.depth, .int .i64 p.slot]
def slCells (l : List Int) : List Value := l.map fun x => .int .i64 x
theorem spCells_set : ∀ (l : List Sp) (k : Nat) (p : Sp), spCells (l.set k p) = ((spCells l).set (k * 2) (.int .i64 p.depth)).set (k * 2 + 1) (.int .i64 p.slot)
  | [], _, _ => rfl
  | q :: l, 0, p => rfl
  | q :: l, k + 1, p => by
    have h := spCells_set l k p
    unfold spCells at h ⊢
    rw [List.set_cons_succ, List.flatMap_cons, List.flatMap_cons, h, show (k + 1) * 2 = k * 2 + 1 + 1 by omega]
    rfl
theorem spCells_at : ∀ {l : List Sp} {k : Nat} {p : Sp}, l[k]? = some p → (spCells l)[k * 2]? = some (.int .i64 p.depth) ∧ (spCells l)[k * 2 + 1]? = some (.int .i64 p.slot)
  | [], k, p, h => by simp at h
  | q :: l, 0, p, h => by
    simp only [List.getElem?_cons_zero, Option.some.injEq] at h
    subst h
    exact ⟨rfl, rfl⟩
  | q :: l, k + 1, p, h => by
    have := spCells_at (l := l) (k := k) (p := p) (by simpa using h)
    rw [show (k + 1) * 2 = k * 2 + 1 + 1 by omega]
    exact this
/-- What a looker looks at, and where it lies. -/
structure LG where
  a : Nat
  g : Nat
  cap : Nat
  b1 : Nat
  b2 : Nat
  okl : Nat → Prop
  l : List Nd
def lkRow (G : LG) (opv : Value) : Array Value := #[.slice (some ⟨G.g, 0, none⟩) G.l.length G.cap, .slice (some ⟨G.b1, 0, none⟩) G.l.length G.l.length, .slice (some ⟨G.b2, 0, none⟩) G.l.length G.l.length, opv]
structure LI (G : LG) (w : World) (oko : Nat → Prop) (opv : Value) (S : Lk) : Prop where
  cell : w.heap[G.a]? = some (.cells (lkRow G opv) 98 (0, 0))
  nodes : NR w G.okl G.g G.cap G.l
  sp : w.heap[G.b1]? = some (.cells (spCells S.spots).toArray 85 (0, 0))
  sl : w.heap[G.b2]? = some (.cells (slCells S.slots).toArray 3 (0, 0))
  opn : Kd.N (Kd.slice 9 Kd.string) 34 w 0 oko opv S.open_
  lens : S.spots.length = G.l.length ∧ S.slots.length = G.l.length
  nopen : S.open_.length ≤ 1048576 ∧ ∀ x ∈ S.open_, x.length ≤ 1048576
  offl : ∀ k, G.okl k → k ≠ G.a ∧ k ≠ G.b1 ∧ k ≠ G.b2 ∧ ¬ oko k
  offo : ∀ k, oko k → k ≠ G.a ∧ k ≠ G.b1 ∧ k ≠ G.b2
  ne : G.a ≠ G.b1 ∧ G.a ≠ G.b2 ∧ G.b1 ≠ G.b2
  lo : ∀ k, oko k → k < w.heap.size
  lol : ∀ k, G.okl k → k < w.heap.size
def LK (G : LG) (oko : Nat → Prop) (k : Nat) : Prop := k = G.a ∨ k = G.b1 ∨ k = G.b2 ∨ oko k
/-- What a call of a looker's comes to. -/
def LN (G : LG) (w : World) (oko : Nat → Prop) (w' : World) (S' : Lk) : Prop := ∃ oko' opv', LI G w' oko' opv' S' ∧ Kp (LK G oko) w w' ∧ ∀ k, oko' k → oko k ∨ w.heap.size ≤ k
section
variable {G : LG} {w w' w'' : World} {oko oko' : Nat → Prop} {opv : Value} {S S' S2 : Lk} {val : Value} {ns : List ByteArray}
theorem LI.lt (h : LI G w oko opv S) : G.a < w.heap.size ∧ G.b1 < w.heap.size ∧ G.b2 < w.heap.size := ⟨(Array.getElem?_eq_some_iff.1 h.cell).1, (Array.getElem?_eq_some_iff.1 h.sp).1, (Array.getElem?_eq_some_iff.1 h.sl).1⟩
theorem LI.c (h : LI G w oko opv S) {i : Nat} {u : Value} (hu : (lkRow G opv)[i]? = some u) : w.cell? ⟨G.a, i, none⟩ = some u := (cell_of_row _ _ _ _ _ _ h.cell).trans hu
theorem LI.c0 (h : LI G w oko opv S) : w.cell? ⟨G.a, 0, none⟩ = some (.slice (some ⟨G.g, 0, none⟩) G.l.length G.cap) := h.c rfl
theorem LI.c1 (h : LI G w oko opv S) : w.cell? ⟨G.a, 1, none⟩ = some (.slice (some ⟨G.b1, 0, none⟩) G.l.length G.l.length) := h.c rfl
theorem LI.c2 (h : LI G w oko opv S) : w.cell? ⟨G.a, 2, none⟩ = some (.slice (some ⟨G.b2, 0, none⟩) G.l.length G.l.length) := h.c rfl
theorem LI.c3 (h : LI G w oko opv S) : w.cell? ⟨G.a, 3, none⟩ = some opv := h.c rfl
theorem LI.f (h : LI G w oko opv S) (i : Nat) : w.frozen? ⟨G.a, i, none⟩ = false := by simp [World.frozen?, h.cell]
theorem LI.f1 (h : LI G w oko opv S) (i : Nat) : w.frozen? ⟨G.b1, i, none⟩ = false := by simp [World.frozen?, h.sp]
theorem LI.f2 (h : LI G w oko opv S) (i : Nat) : w.frozen? ⟨G.b2, i, none⟩ = false := by simp [World.frozen?, h.sl]
theorem LI.below (h : LI G w oko opv S) (hb : Below w.heap.size w w') : LI G w' oko opv S :=
  ⟨(hb.block _ h.lt.1).trans h.cell, Kd.N_below h.nodes hb, (hb.block _ h.lt.2.1).trans h.sp, (hb.block _ h.lt.2.2).trans h.sl, Kd.N_below h.opn hb, h.lens, h.nopen, h.offl, h.offo, h.ne, fun k hk => Nat.lt_of_lt_of_le (h.lo k hk) hb.size, fun k hk => Nat.lt_of_lt_of_le (h.lol k hk) hb.size⟩
theorem LI.same (h : LI G w oko opv S) : LN G w oko w S := ⟨oko, opv, h, Kp.refl _ _, fun _ h => .inl h⟩
theorem LN.pre (hb : Below w.heap.size w w') (h : LN G w' oko w'' S') : LN G w oko w'' S' := by
  obtain ⟨o1, v1, h1, k1, s1⟩ := h
  exact ⟨o1, v1, h1, (Kp.of_below hb).trans k1 (fun _ h => .inl h), fun k hk => (s1 k hk).imp id (fun h => Nat.le_trans hb.size h)⟩
/-- What a looker has not in hand stays. -/
theorem Kp.offl (h : Kp (LK G oko) w w') (hI : LI G w oko opv S) : ∀ k, G.okl k → w'.heap[k]? = w.heap[k]? := fun k hk => h.block k (hI.lol k hk) (fun q => by
  obtain ⟨h1, h2, h3, h4⟩ := hI.offl k hk
  rcases q with q | q | q | q
  · exact h1 q
  · exact h2 q
  · exact h3 q
  · exact h4 q)
/-- A spot is set. -/
theorem LI.setSpot (h : LI G w oko opv S) {k : Nat} (p : Sp) : LI G ((w.setCell ⟨G.b1, k * 2, none⟩ (.int .i64 p.depth)).setCell ⟨G.b1, k * 2 + 1, none⟩ (.int .i64 p.slot)) oko opv (S.spot k p) := by
  have hk : Kp (fun j => j = G.b1) w ((w.setCell ⟨G.b1, k * 2, none⟩ (.int .i64 p.depth)).setCell ⟨G.b1, k * 2 + 1, none⟩ (.int .i64 p.slot)) := (Kp.set (K := fun j => j = G.b1) (p := ⟨G.b1, k * 2, none⟩) _ rfl).trans (Kp.set (K := fun j => j = G.b1) (p := ⟨G.b1, k * 2 + 1, none⟩) _ rfl) (fun _ h => .inl h)
  refine ⟨hk.heap h.cell h.ne.1, Kd.N_kept h.nodes hk.kept (fun j hj => (h.offl j hj).2.1), ?_, hk.heap h.sl h.ne.2.2.symm, Kd.N_kept h.opn hk.kept (fun j hj => (h.offo j hj).2.1), ⟨by simpa [Lk.spot] using h.lens.1, h.lens.2⟩, h.nopen, h.offl, h.offo, h.ne, fun j hj => Nat.lt_of_lt_of_le (h.lo j hj) hk.size, fun j hj => Nat.lt_of_lt_of_le (h.lol j hj) hk.size⟩
  refine blk_put (blk_put h.sp (k * 2) (.int .i64 p.depth) rfl) (k * 2 + 1) (.int .i64 p.slot) ?_
  unfold Lk.spot
  simp only [spCells_set, List.setIfInBounds_toArray]
/-- A number of names is set. -/
theorem LI.setSlot (h : LI G w oko opv S) {k : Nat} (x : Int) : LI G (w.setCell ⟨G.b2, k, none⟩ (.int .i64 x)) oko opv { S with slots := S.slots.set k x } := by
  have hk : Kp (fun j => j = G.b2) w (w.setCell ⟨G.b2, k, none⟩ (.int .i64 x)) := Kp.set (K := fun j => j = G.b2) (p := ⟨G.b2, k, none⟩) _ rfl
  refine ⟨hk.heap h.cell h.ne.2.1, Kd.N_kept h.nodes hk.kept (fun j hj => (h.offl j hj).2.2.1), hk.heap h.sp h.ne.2.2, ?_, Kd.N_kept h.opn hk.kept (fun j hj => (h.offo j hj).2.2), ⟨h.lens.1, by simpa using h.lens.2⟩, h.nopen, h.offl, h.offo, h.ne, fun j hj => Nat.lt_of_lt_of_le (h.lo j hj) hk.size, fun j hj => Nat.lt_of_lt_of_le (h.lol j hj) hk.size⟩
  refine blk_put h.sl k (.int .i64 x) ?_
  unfold slCells
  simp [List.map_set]
/-- The row of open scopes is another one. -/
theorem LI.setOpen (h : LI G w oko opv S) {opv' : Value} {o' : List (List ByteArray)} (hn : Kd.N (Kd.slice 9 Kd.string) 34 w 0 oko opv' o') (ho : o'.length ≤ 1048576 ∧ ∀ x ∈ o', x.length ≤ 1048576) : LI G (w.setCell ⟨G.a, 3, none⟩ opv') oko opv' { S with open_ := o' } := by
  have hk : Kp (fun j => j = G.a) w (w.setCell ⟨G.a, 3, none⟩ opv') := Kp.set (K := fun j => j = G.a) (p := ⟨G.a, 3, none⟩) _ rfl
  exact ⟨blk_put h.cell 3 opv' rfl, Kd.N_kept h.nodes hk.kept (fun j hj => (h.offl j hj).1), hk.heap h.sp h.ne.1.symm, hk.heap h.sl h.ne.2.1.symm, Kd.N_kept hn hk.kept (fun j hj => (h.offo j hj).1), h.lens, ho, h.offl, h.offo, h.ne, fun j hj => Nat.lt_of_lt_of_le (h.lo j hj) hk.size, fun j hj => Nat.lt_of_lt_of_le (h.lol j hj) hk.size⟩
theorem infoKeys : (Try.prog.info? 34).map (fun i => (i.zero, i.size, i.bytes)) = some (some (.slice none 0 0), 1, 24) := by kernel_rfl
set_option maxHeartbeats 1600000 in
set_option maxRecDepth 100000 in
theorem pop_c (h : LI G w oko opv S) (hn : S.open_ ≠ []) : Calls Try.prog 88 #[.pointer (some ⟨G.a, 3, none⟩)] w fun e w' => e = .returned (.tuple #[]) ∧ LN G w oko w' { S with open_ := S.open_.dropLast } := by
  obtain ⟨A, c, rfl⟩ := Kd.N_slice h.opn
  obtain ⟨m, hm⟩ : ∃ m, S.open_.length = m + 1 := by
    cases ho : S.open_ with
    | nil => exact absurd ho hn
    | cons x l => exact ⟨l.length, rfl⟩
  have hmc := (Kd.N_reads' h.opn).2.1
  have c3 := h.c3
  have f3 := h.f 3
  have hlt := h.lt.1
  have hcap := h.nopen.1
  rw [hm] at c3 hmc hcap
  have e1 : IntKind.i64.wrap (((m + 1 : Nat) : Int) - 1) = (m : Int) := by rw [wrapI ⟨by omega, by omega⟩]; omega
  have e2 : IntKind.i64.wrap (m : Int) = (m : Int) := wrapI ⟨by omega, by omega⟩
  have e3 : (0 : Int) ≤ (m : Int) := by omega
  have e4 : (m : Int) ≤ (c : Int) := by omega
  have H := hid h
  have HM := hid hm
  clear h hn hm
  go_enter Try.func88, Try.ntmps88
  go_wp2_with fail
  go_still_tail 12, (by kernel_rfl)
  change wpList _ _ _ _ _ w.drew
  go_wp2_with fail
  have hS := H.out.below (Below.refl w.heap.size w).drew
  have hml : m ≤ S.open_.length := by rw [HM.out]; omega
  have hN := Kd.N_take (m := m) hS.opn hml
  have hS2 := hS.setOpen hN ⟨by simp; have := H.out.nopen.1; omega, fun x hx => H.out.nopen.2 x (List.mem_of_mem_take hx)⟩
  have e : S.open_.take m = S.open_.dropLast := by rw [List.dropLast_eq_take, HM.out]; rfl
  rw [e] at hS2
  exact bodyPost_end (results_none rfl _ _ _) rfl ⟨rfl, oko, _, hS2, (Kp.of_below (Below.refl w.heap.size w).drew).trans (Kp.set (K := LK G oko) (p := ⟨G.a, 3, none⟩) _ (.inl rfl)) (fun _ h => .inl h), fun _ h => .inl h⟩
set_option maxHeartbeats 1600000 in
set_option maxRecDepth 100000 in
theorem push_c (h : LI G w oko opv S) (hO : Kd.N Kd.string 9 w 0 (fun k => some k = val.ownBlock) val ns) (hf : ∀ k, val.ownBlock = some k → ¬ oko k ∧ k ≠ G.a ∧ k ≠ G.b1 ∧ k ≠ G.b2 ∧ ¬ G.okl k) (hn : S.open_.length < 1048576) (hns : ns.length ≤ 1048576) :
    Calls Try.prog 87 #[.pointer (some ⟨G.a, 3, none⟩), val] w fun e w' => e = .returned (.tuple #[]) ∧ ∃ oko' opv', LI G w' oko' opv' { S with open_ := S.open_ ++ [ns] } ∧ Kp (LK G oko) w w' ∧ ∀ k, oko' k → oko k ∨ val.ownBlock = some k ∨ w.heap.size ≤ k := by
  obtain ⟨A, c, rfl⟩ := Kd.N_slice h.opn
  obtain ⟨A1, c1, rfl⟩ := Kd.N_slice hO
  have hc1 := (Kd.N_reads' hO).2.1
  have hal : Below w.heap.size w (w.alloc (.cells #[.slice A1 ns.length c1] 34)) := (Below.refl _ _).alloc (Nat.le_refl _) _
  have hFK : Kd.FK (Kd.slice 9 Kd.string) w (fun k => some k = (Value.slice A1 ns.length c1).ownBlock) ns [.slice A1 ns.length c1] := Kd.FK_slice_mk hc1 (Kd.N_F hO)
  have c3 := h.c3
  have f3 := h.f 3
  have hlt := h.lt.1
  have H := hid h
  have HFK := hid hFK
  have HF := hid hf
  have HAL := hid hal
  have HC3 := hid c3
  have hnl : Kd.N (Kd.slice 9 Kd.string) 34 w 0 (fun k => oko k ∨ some k = (Value.slice A1 ns.length c1).ownBlock ∨ w.heap.size ≤ k) (.slice A S.open_.length c) S.open_ := Kd.N_mono h.opn (fun k hk => .inl hk)
  have HNL := hid hnl
  clear h hO hf hal hFK hnl
  go_enter Try.func87, Try.ntmps87
  go_wp2_with (at_builtin; refine Kd.N_append (Kd.slice 9 Kd.string) (w0 := w) 0 rfl _ _ 94 34 (.slice none 0 0) 24 rfl Try.underlying94 infoKeys rfl (by decide) (by decide) (.slice A S.open_.length c) S.open_ ns [.slice A1 ns.length c1] (fun k => oko k ∨ some k = (Value.slice A1 ns.length c1).ownBlock ∨ w.heap.size ≤ k) _ ?c1 ?c2 HFK.out ?c3 ?c4 HNL.out (Below.refl _ _) (Nat.zero_le _) (by omega) ?_; (case c1 => rfl); (case c2 => rfl); (case c3 => exact fun k hk => ⟨.inr (.inl hk), fun e => (HF.out k hk.symm).1 (H.out.opn.1 k e.symm)⟩); (case c4 => exact fun k hk => .inr (.inr hk)); intro v1 w1 hN1 _ hg1 hat1; obtain ⟨A2, c2, ev⟩ := Kd.N_slice hN1; subst ev; have HN1 := hid hN1; have HG1 := hid hg1; have hp1 : w1.heap[G.a]? = w.heap[G.a]? := hg1.block _ hlt (fun e => (H.out.offo _ (H.out.opn.1 _ e.symm)).1 rfl); have m0 : w1.cell? ⟨G.a, 3, none⟩ = some (.slice A S.open_.length c) := (World.cell?_of_block (w := w) (a := ⟨G.a, 3, none⟩) hp1).trans c3; have m1 : w1.frozen? ⟨G.a, 3, none⟩ = false := (World.frozen?_of_block (w := w) (a := ⟨G.a, 3, none⟩) hp1).trans f3; clear hN1 hg1 hat1 hp1)
  have hkp : Kp (fun k => oko k) w w1 := Kp.grown HG1.out (fun k e => H.out.opn.1 k e)
  have hI := H.out
  have hin : ∀ k, ((oko k ∨ some k = (Value.slice A1 ns.length c1).ownBlock ∨ w.heap.size ≤ k) ∧ k < w1.heap.size) → k ≠ G.a ∧ k ≠ G.b1 ∧ k ≠ G.b2 := fun k hk => by
    rcases hk.1 with q | q | q
    · exact hI.offo k q
    · exact ⟨(HF.out k q.symm).2.1, (HF.out k q.symm).2.2.1, (HF.out k q.symm).2.2.2.1⟩
    · have := hI.lt; omega
  have hka : ¬ oko G.a := fun e => (hI.offo _ e).1 rfl
  have hset : Kp (fun k => k = G.a) w1 (w1.setCell ⟨G.a, 3, none⟩ (.slice A2 (S.open_ ++ [ns]).length c2)) := Kp.set (K := fun k => k = G.a) (p := ⟨G.a, 3, none⟩) _ rfl
  have hk2 : Kp (fun k => k = G.a ∨ oko k) w (w1.setCell ⟨G.a, 3, none⟩ (.slice A2 (S.open_ ++ [ns]).length c2)) := (hkp.mono (fun k h => .inr h)).trans hset (fun _ h => .inl (.inl h))
  have hS : LI G (w1.setCell ⟨G.a, 3, none⟩ (.slice A2 (S.open_ ++ [ns]).length c2)) (fun k => (oko k ∨ some k = (Value.slice A1 ns.length c1).ownBlock ∨ w.heap.size ≤ k) ∧ k < w1.heap.size) (.slice A2 (S.open_ ++ [ns]).length c2) { S with open_ := S.open_ ++ [ns] } := by
    refine ⟨blk_put (hkp.heap hI.cell hka) 3 _ rfl, Kd.N_kept hI.nodes hk2.kept (fun j hj q => ?_), hk2.heap hI.sp (fun q => q.elim hI.ne.1.symm (fun e => (hI.offo _ e).2.1 rfl)), hk2.heap hI.sl (fun q => q.elim hI.ne.2.1.symm (fun e => (hI.offo _ e).2.2 rfl)), Kd.N_kept (Kd.N_bound HN1.out) hset.kept (fun j hj => (hin j hj).1), hI.lens, ⟨by simp; omega, fun x hx => ?_⟩, fun k hk => ?_, hin, hI.ne, fun k hk => by simpa using hk.2, fun k hk => Nat.lt_of_lt_of_le (hI.lol k hk) hk2.size⟩
    · obtain ⟨h1, h2, h3, h4⟩ := hI.offl j hj
      exact q.elim h1 h4
    · rcases List.mem_append.1 hx with hx | hx
      · exact hI.nopen.2 x hx
      · rw [List.mem_singleton.1 hx]; exact hns
    · obtain ⟨h1, h2, h3, h4⟩ := hI.offl k hk
      refine ⟨h1, h2, h3, fun q => ?_⟩
      rcases q.1 with q | q | q
      · exact h4 q
      · exact (HF.out k q.symm).2.2.2.2 hk
      · have := hI.lol k hk; omega
  have e : ((S.open_ ++ [ns]).length) = S.open_.length + 1 := by simp
  rw [e] at hS hk2
  refine bodyPost_end (results_none rfl _ _ _) rfl ⟨rfl, _, _, hS, hk2.mono (fun k q => q.elim .inl (fun h => .inr (.inr (.inr h)))), fun k hk => ?_⟩
  rcases hk.1 with q | q | q
  · exact .inl q
  · exact .inr (.inl q.symm)
  · exact .inr (.inr q)
end
open Go.Proofs.YtibepkblgliooaaW.PrintWords
/-- look, so many calls deep, does what lookF says. -/
def LookOk (G : LG) (m : Nat) : Prop := ∀ {k : Nat} {S S' : Lk}, lookF G.l m k S = some S' → ∀ {w : World} {oko : Nat → Prop} {opv : Value}, LI G w oko opv S →
  Calls Try.prog 54 #[ptr G.a, .int .i64 k] w fun e w' => e = .returned (.tuple #[]) ∧ LN G w oko w' S'
theorem namesF_max {l : List Nd} : ∀ {ks : List Nat} {acc ns : List ByteArray}, namesF l ks acc = some ns → acc.length ≤ 1048576 → ns.length ≤ 1048576
  | [], acc, ns, h, ha => by injection h with h; rw [← h]; exact ha
  | k :: ks, acc, ns, h, ha => by
    unfold namesF at h
    obtain ⟨d, _, h⟩ := Option.bind_eq_some_iff.1 h
    cases d with
    | none => exact namesF_max h ha
    | some s =>
      dsimp only at h
      split at h
      · rename_i hc
        have : acc.length < 1048576 := hc
        exact namesF_max h (by simp; omega)
      · cases h
theorem LN.of {G : LG} {w w' w'' : World} {oko o1 : Nat → Prop} {S' : Lk} (k1 : Kp (LK G oko) w w') (s1 : ∀ k, o1 k → oko k ∨ w.heap.size ≤ k) (g : LN G w' o1 w'' S') : LN G w oko w'' S' := by
  obtain ⟨o2, v2, h2, k2, s2⟩ := g
  refine ⟨o2, v2, h2, k1.trans k2 (fun k hk => ?_), fun k hk => (s2 k hk).elim (s1 k) (fun h => .inr (Nat.le_trans k1.size h))⟩
  rcases hk with h | h | h | h
  · exact .inl (.inl h)
  · exact .inl (.inr (.inl h))
  · exact .inl (.inr (.inr (.inl h)))
  · exact (s1 k h).imp (fun h => .inr (.inr (.inr h))) id
theorem allF_open {R : Nat → Lk → Option Lk} (hR : ∀ {k S S'}, R k S = some S' → S'.open_ = S.open_ ∧ S'.spots.length = S.spots.length ∧ S'.slots.length = S.slots.length) : ∀ {ks : List Nat} {S S' : Lk}, allF R ks S = some S' → S'.open_ = S.open_ ∧ S'.spots.length = S.spots.length ∧ S'.slots.length = S.slots.length
  | [], S, S', h => by injection h with h; rw [h]; exact ⟨rfl, rfl, rfl⟩
  | k :: ks, S, S', h => by
    unfold allF at h
    obtain ⟨T, h1, h2⟩ := Option.bind_eq_some_iff.1 h
    obtain ⟨a1, a2, a3⟩ := hR h1
    obtain ⟨b1, b2, b3⟩ := allF_open hR h2
    exact ⟨b1.trans a1, b2.trans a2, b3.trans a3⟩
theorem withinF_open {l : List Nd} {R : Nat → Lk → Option Lk} (hR : ∀ {k S S'}, R k S = some S' → S'.open_ = S.open_ ∧ S'.spots.length = S.spots.length ∧ S'.slots.length = S.slots.length) {k : Nat} {ahead : List ByteArray} {ks : List Nat} {S S' : Lk} (h : withinF l R k ahead ks S = some S') : S'.open_ = S.open_ ∧ S'.spots.length = S.spots.length ∧ S'.slots.length = S.slots.length := by
  unfold withinF at h
  obtain ⟨ns, h1, h2⟩ := Option.bind_eq_some_iff.1 h
  split at h2
  · obtain ⟨T, h3, h4⟩ := Option.map_eq_some_iff.1 h2
    obtain ⟨b1, b2, b3⟩ := allF_open hR h3
    subst h4
    refine ⟨?_, b2, b3.trans (by simp)⟩
    rw [b1]; simp
  · cases h2
theorem lookF_open {l : List Nd} : ∀ {m k : Nat} {S S' : Lk}, lookF l m k S = some S' → S'.open_ = S.open_ ∧ S'.spots.length = S.spots.length ∧ S'.slots.length = S.slots.length
  | 0, _, _, _, h => by rw [lookF] at h; cases h
  | m + 1, k, S, S', h => by
    have ih : ∀ {k S S'}, lookF l m k S = some S' → S'.open_ = S.open_ ∧ S'.spots.length = S.spots.length ∧ S'.slots.length = S.slots.length := fun h => lookF_open h
    unfold lookF at h
    obtain ⟨n, h1, h2⟩ := Option.bind_eq_some_iff.1 h
    obtain ⟨d, h3, h4⟩ := Option.bind_eq_some_iff.1 h2
    split at h4
    · obtain ⟨S1, e1, e2, e3, e4⟩ : ∃ S1 : Lk, declS S k d = S1 ∧ S1.open_ = S.open_ ∧ S1.spots.length = S.spots.length ∧ S1.slots.length = S.slots.length := by
        cases d with
        | none => exact ⟨S, rfl, rfl, rfl, rfl⟩
        | some s => exact ⟨S.spot k (spotF S.open_ s), rfl, rfl, by simp [Lk.spot], rfl⟩
      rw [e1] at h4
      have fin : (S'.open_ = S1.open_ ∧ S'.spots.length = S1.spots.length ∧ S'.slots.length = S1.slots.length) → S'.open_ = S.open_ ∧ S'.spots.length = S.spots.length ∧ S'.slots.length = S.slots.length := fun ⟨a, b, c⟩ => ⟨a.trans e2, b.trans e3, c.trans e4⟩
      unfold bodyF at h4
      apply fin
      split at h4
      · injection h4 with h4; rw [← h4]; exact ⟨rfl, by simp [Lk.spot], rfl⟩
      split at h4
      · exact withinF_open ih h4
      split at h4
      · exact withinF_open ih h4
      split at h4
      · obtain ⟨ns, _, h5⟩ := Option.bind_eq_some_iff.1 h4
        split at h5
        · exact withinF_open ih h5
        · exact allF_open ih h5
      split at h4
      · obtain ⟨k0, _, h5⟩ := Option.bind_eq_some_iff.1 h4
        obtain ⟨k1, _, h6⟩ := Option.bind_eq_some_iff.1 h5
        obtain ⟨S2, h7, h8⟩ := Option.bind_eq_some_iff.1 h6
        obtain ⟨n1, _, h9⟩ := Option.bind_eq_some_iff.1 h8
        obtain ⟨a1, a2, a3⟩ := ih h7
        obtain ⟨b1, b2, b3⟩ := withinF_open ih h9
        exact ⟨b1.trans a1, b2.trans a2, b3.trans a3⟩
      · exact allF_open ih h4
    · cases h4
section
variable {G : LG} {m : Nat} {w : World} {oko okk : Nat → Prop} {opv : Value} {S S' : Lk} {A A4 : Option Addr} {c c4 k : Nat} {ks : List Nat} {ahead : List ByteArray}
set_option maxHeartbeats 1600000 in
set_option maxRecDepth 100000 in
theorem all_w (ih : LookOk G m) (hr : allF (lookF G.l m) ks S = some S') (h : LI G w oko opv S) (hk : Kd.F (Kd.int .i64) w G.okl A4 ks.length (ints ks)) :
    Calls Try.prog 76 #[ptr G.a, .slice A4 ks.length c4] w fun e w' => e = .returned (.tuple #[]) ∧ LN G w oko w' S' := by
  have hmax : ks.length ≤ 9223372036854775807 := Kd.F_max hk
  have H := hid h
  have HK := hid hk
  have HR := hid hr
  have IH := hid @ih
  have HS := hid h.same
  clear h hk hr ih
  unfold ptr
  go_enter Try.func76, Try.ntmps76
  go_wp2_with fail
  go_loopw [8] (fun x wx => ∃ (j : Nat) (T : Lk), j ≤ ks.length ∧ x = .int .i64 j ∧ Box (LN G w oko wx T) ∧ Box (allF (lookF G.l m) (ks.drop j) T = some S')) (fun x _ => ks.length - (RowKit.intOf x).toNat)
  case atStart => exact ⟨0, S, Nat.zero_le _, rfl, HS, HR⟩
  case round =>
    clear HR HS
    obtain ⟨j, T, hj, rfl, HT, HR⟩ := hrel
    rcases Nat.lt_or_ge j ks.length with hlt | hge
    · have hlt' : (j : Int) < (ks.length : Int) := by omega
      have hp : (0 : Int) ≤ (j : Int) := by omega
      obtain ⟨o1, v1, h1, k1, s1⟩ := id HT.out
      have hk1 := Kd.F_step HK.out (W1 := wr) (fun j hj _ => k1.offl H.out j hj)
      obtain ⟨ad, rfl, hc⟩ := Kd.at_int (Kd.F_now hk1) (j : Int) (by omega) (by omega)
      have hx : rd (ints ks) (j : Int) = (ks[j] : Int) := by unfold rd ints; simp [hlt]
      rw [hx, Int.toNat_natCast] at hc
      have hr := HR.out
      rw [List.drop_eq_getElem_cons hlt] at hr
      unfold allF at hr
      obtain ⟨T2, ht, hr⟩ := Option.bind_eq_some_iff.1 hr
      generalize ks[j] = k at hc ht
      have HLT := hid ht
      have HR2 := hid hr
      have H1 := hid h1
      have K1 := hid k1
      have S1 := hid s1
      clear hx hr ht HR h1 k1 s1 hk1
      go_wp2_with fail
      refine (IH.out HLT.out H1.out).mono ?_
      rintro e w2 ⟨rfl, hL2⟩
      have HT2 : Box (LN G w oko w2 T2) := hid (LN.of K1.out S1.out hL2)
      clear hL2
      go_wp2_with fail
      go_roundw
      case rel => exact ⟨j + 1, T2, by omega, by go_num, HT2, HR2⟩
      case measure => simp [RowKit.intOf]; omega
    · obtain rfl : j = ks.length := by omega
      have hr := HR.out
      rw [List.drop_length] at hr
      obtain rfl : T = S' := Option.some.inj hr
      clear hr HR
      go_wp2_with fail
      exact bodyPost_end (results_none rfl _ _ _) rfl ⟨rfl, HT.out⟩
set_option maxHeartbeats 1600000 in
set_option maxRecDepth 100000 in
theorem within_w (ih : LookOk G m) (hr : withinF G.l (lookF G.l m) k ahead ks S = some S') (h : LI G w oko opv S) (ha : Kd.F Kd.string w okk A ahead.length ahead) (hk : Kd.F (Kd.int .i64) w G.okl A4 ks.length (ints ks)) :
    Calls Try.prog 74 #[ptr G.a, .int .i64 k, .slice A ahead.length c, .slice A4 ks.length c4] w fun e w' => e = .returned (.tuple #[]) ∧ LN G w oko w' S' := by
  unfold withinF at hr
  obtain ⟨ns, hns, hr⟩ := Option.bind_eq_some_iff.1 hr
  split at hr
  · rename_i hc
    obtain ⟨hks, hop, hal⟩ := hc
    obtain ⟨S3, hall, hr⟩ := Option.map_eq_some_iff.1 hr
    have hop3 := (allF_open (fun h => lookF_open h) hall).1
    dsimp only at hop3
    subst hr
    have hmax := Kd.F_max hk
    have hnc := names_c (c := c) (c4 := c4) h.c0 h.nodes ha (Nat.le_of_lt hal) (Kd.F_now hk) hmax hns
    have hnl : ns.length ≤ 1048576 := namesF_max hns (Nat.le_of_lt hal)
    have hnk : k < G.l.length := by rw [← h.lens.2]; exact hks
    have hnk' : (k : Int) < (G.l.length : Int) := by omega
    have HNC := hid hnc
    have H := hid h
    have HK := hid hk
    have HALL := hid hall
    have HOP3 := hid hop3
    have HNL := hid hnl
    have HOP := hid hop
    have HKS := hid hks
    have IH := hid @ih
    clear hnc h ha hk hall hop3 hns hnl hal hop hks ih
    unfold ptr at *
    go_enter Try.func74, Try.ntmps74
    go_wp2_with fail
    refine HNC.out.mono ?_
    rintro e w1 ⟨val, rfl, hO, hB⟩
    have h1 := H.out.below hB
    obtain ⟨Av, cv, ev⟩ := hO.slice
    subst ev
    have c2 := h1.c2
    have f2 := h1.f2 k
    have c2k := (cell_of_row _ _ k _ _ _ h1.sl).trans (c := some (Value.int .i64 (S.slots[k]'(HKS.out)))) (by simp [slCells, HKS.out])
    have hne : ¬ (G.b2 = G.a) := h1.ne.2.1.symm
    have H1 := hid h1
    have HO := hid hO
    have HB := hid hB
    clear h1 hO hB HNC
    go_wp2_with fail
    have h2 := H1.out.setSlot (k := k) (ns.length : Int)
    have hkp2 : Kp (LK G oko) w (w1.setCell ⟨G.b2, k, none⟩ (.int .i64 ns.length)) := (Kp.of_below HB.out).trans (Kp.set (K := LK G oko) (p := ⟨G.b2, k, none⟩) _ (.inr (.inr (.inl rfl)))) (fun _ h => .inl h)
    have hfar : ∀ k', (Value.slice Av ns.length cv).ownBlock = some k' → ¬ oko k' ∧ k' ≠ G.a ∧ k' ≠ G.b1 ∧ k' ≠ G.b2 ∧ ¬ G.okl k' := fun k' hk' => by
      have h3 := (HO.out.2 k' hk').1
      have h4 := H.out.lt
      exact ⟨fun q => by have := H.out.lo _ q; omega, by omega, by omega, by omega, fun q => by have := H.out.lol _ q; omega⟩
    have hO2 : Kd.N Kd.string 9 (w1.setCell ⟨G.b2, k, none⟩ (.int .i64 ns.length)) 0 (fun k' => some k' = (Value.slice Av ns.length cv).ownBlock) (.slice Av ns.length cv) ns := Kd.N_far (p := ⟨G.b2, k, none⟩) HO.out.1 (fun k' hk' => (hfar k' hk'.symm).2.2.2.1) _
    refine (push_c h2 hO2 hfar HOP.out HNL.out).mono ?_
    rintro e w3 ⟨rfl, o3, v3, h3, k3, s3⟩
    have hkp3 : Kp (LK G oko) w w3 := hkp2.trans k3 (fun _ h => .inl h)
    have hs3 : ∀ k, o3 k → oko k ∨ w.heap.size ≤ k := fun k' hk' => by
      rcases s3 k' hk' with q | q | q
      · exact .inl q
      · exact .inr (HO.out.2 k' q).1
      · have hz : (w1.setCell ⟨G.b2, k, none⟩ (.int .i64 ns.length)).heap.size = w1.heap.size := by simp
        have := HB.out.size
        rw [hz] at q
        exact .inr (by omega)
    have hk3 := Kd.F_step HK.out (W1 := w3) (fun j hj _ => hkp3.offl H.out j hj)
    have H3 := hid h3
    have HK3 := hid hk3
    have KP3 := hid hkp3
    have HS3 := hid hs3
    clear h2 hkp2 hfar hO2 h3 k3 s3 hkp3 hs3 hk3 c2 f2 c2k H1 HO HB
    go_wp2_with fail
    refine (all_w @IH.out HALL.out H3.out HK3.out).mono ?_
    rintro e w4 ⟨rfl, o4, v4, h4, k4, s4⟩
    have hL4 := LN.of KP3.out HS3.out (⟨o4, v4, h4, k4, s4⟩ : LN G w3 o3 w4 S3)
    have H4 := hid h4
    have HL4 := hid hL4
    have HKS4 := hid (And.intro k4 s4)
    clear h4 k4 s4 hL4
    go_wp2_with fail
    refine (pop_c H4.out (by rw [HOP3.out]; simp)).mono ?_
    rintro e w5 ⟨rfl, hL5⟩
    have hfin := LN.of KP3.out HS3.out (LN.of HKS4.out.1 HKS4.out.2 hL5)
    have HF := hid hfin
    clear hL5 hfin
    go_wp2_with fail
    exact bodyPost_end (results_none rfl _ _ _) rfl ⟨rfl, HF.out⟩
  · cases hr
end
end Go.Proofs.Ytibepkblgliooaa.Q
