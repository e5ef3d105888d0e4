/- A tree that was looked at: the row it lies in. -/
import Derived.Test.YticbjhicjegfoaaSj
namespace Go.Proofs.Yticbjhicjegfoaa.Q
open Go.RowKit
open Go.Proofs.YticbjhicjegfoaaW.PrintWords

def mark (n j : Nat) : List Sp := (List.range n).map fun i => if i < j then ⟨-1, 0⟩ else ⟨0, 0⟩
def mark2 (n j : Nat) : List Int := (List.range n).map fun i => if i < j then -1 else 0
theorem mark_set {n j : Nat} (h : j < n) : (mark n j).set j ⟨-1, 0⟩ = mark n (j + 1) := by
  apply List.ext_getElem?
  intro i
  unfold mark
  rw [List.getElem?_set]
  by_cases hij : j = i
  · subst hij
    simp [h]
  · rw [if_neg hij]
    simp only [List.getElem?_map]
    cases hi : (List.range n)[i]? with
    | none => rfl
    | some x =>
      obtain ⟨h1, h2⟩ := List.getElem?_eq_some_iff.1 hi
      simp only [List.getElem_range] at h2
      subst h2
      simp only [Option.map_some]
      by_cases h3 : i < j
      · rw [if_pos h3, if_pos (by omega)]
      · rw [if_neg h3, if_neg (by omega)]
theorem mark2_set {n j : Nat} (h : j < n) : (mark2 n j).set j (-1) = mark2 n (j + 1) := by
  apply List.ext_getElem?
  intro i
  unfold mark2
  rw [List.getElem?_set]
  by_cases hij : j = i
  · subst hij
    simp [h]
  · rw [if_neg hij]
    simp only [List.getElem?_map]
    cases hi : (List.range n)[i]? with
    | none => rfl
    | some x =>
      obtain ⟨h1, h2⟩ := List.getElem?_eq_some_iff.1 hi
      simp only [List.getElem_range] at h2
      subst h2
      simp only [Option.map_some]
      by_cases h3 : i < j
      · rw [if_pos h3, if_pos (by omega)]
      · rw [if_neg h3, if_neg (by omega)]
theorem mark_at {n j : Nat} (h : j < n) : (mark n j)[j]? = some ⟨0, 0⟩ := by simp [mark, h]
theorem mark_end (l : List Nd) : mark l.length l.length = l.map fun _ => ⟨-1, 0⟩ := by
  apply List.ext_getElem?
  intro i
  unfold mark
  by_cases h : i < l.length <;> simp [h]
theorem mark2_end (l : List Nd) : mark2 l.length l.length = l.map fun _ => -1 := by
  apply List.ext_getElem?
  intro i
  unfold mark2
  by_cases h : i < l.length <;> simp [h]
theorem mark_zero (n : Nat) : mark n 0 = List.replicate n ⟨0, 0⟩ := by
  apply List.ext_getElem?
  intro i
  unfold mark
  by_cases h : i < n <;> simp [h]
theorem mark2_zero (n : Nat) : mark2 n 0 = List.replicate n 0 := by
  apply List.ext_getElem?
  intro i
  unfold mark2
  by_cases h : i < n <;> simp [h]
theorem below_kp {w w1 w2 : World} {n : Nat} {K : Nat → Prop} (hb : Below n w w1) (hn : n ≤ w.heap.size) (hk : Kp K w1 w2) (h : ∀ k, K k → n ≤ k) : Below n w w2 :=
  ⟨hk.os.trans hb.os, hk.tape.trans hb.tape, hk.output.trans hb.output, Nat.le_trans hb.size hk.size, fun k hlt => (hk.block k (by have := hb.size; omega) (fun q => by have := h k q; omega)).trans (hb.block k hlt)⟩
theorem far_cell {W : World} {a b i o : Nat} {v : Value} (hne : a ≠ b) (u : Value) (h : W.cell? ⟨a, i, none⟩ = some v) : (W.setCell ⟨b, o, none⟩ u).cell? ⟨a, i, none⟩ = some v :=
  (World.cell?_of_block (w := W) (a := ⟨a, i, none⟩) (Below.heap_setCell W ⟨b, o, none⟩ u a hne)).trans h
/-- The depth of a spot is set. -/
theorem LI.setDepth {G : LG} {w : World} {oko : Nat → Prop} {opv : Value} {S : Lk} (h : LI G w oko opv S) {k : Nat} {p : Sp} (hk : S.spots[k]? = some p) (x : Int) : LI G (w.setCell ⟨G.b1, k * 2, none⟩ (.int .i64 x)) oko opv (S.spot k ⟨x, p.slot⟩) := by
  have hk' : Kp (fun j => j = G.b1) w (w.setCell ⟨G.b1, k * 2, none⟩ (.int .i64 x)) := Kp.set (K := fun j => j = G.b1) (p := ⟨G.b1, k * 2, none⟩) _ rfl
  refine ⟨hk'.heap h.cell h.ne.1, Kd.N_kept h.nodes hk'.kept (fun j hj => (h.offl j hj).2.1), ?_, hk'.heap h.sl h.ne.2.2.symm, Kd.N_kept h.opn hk'.kept (fun j hj => (h.offo j hj).2.1), ⟨by simpa [Lk.spot] using h.lens.1, h.lens.2⟩, h.nopen, h.offl, h.offo, h.ne, fun j hj => Nat.lt_of_lt_of_le (h.lo j hj) hk'.size, fun j hj => Nat.lt_of_lt_of_le (h.lol j hj) hk'.size⟩
  refine blk_put h.sp (k * 2) (.int .i64 x) ?_
  have h2 := (spCells_at hk).2
  obtain ⟨h3, h4⟩ := List.getElem?_eq_some_iff.1 h2
  unfold Lk.spot
  simp only [spCells_set, List.setIfInBounds_toArray]
  congr 1
  symm
  apply List.ext_getElem?
  intro i
  rw [List.getElem?_set]
  by_cases hi : k * 2 + 1 = i
  · subst hi
    rw [if_pos rfl, List.getElem?_set_ne (by omega), h2]
    simp [h3]
  · rw [if_neg hi]
section
variable {w : World} {okl : Nat → Prop} {g cap : Nat} {l : List Nd}
set_option maxHeartbeats 3200000 in
set_option maxRecDepth 100000 in
theorem looked_c (h : NR w okl g cap l) (hlo : ∀ k, okl k → k < w.heap.size) (hl : l.length ≤ 1048576) (hl0 : 0 < l.length) {m : Nat} {S : Lk} (hr : looked m l = some S) :
    Calls Try.prog 31 #[.slice (some ⟨g, 0, none⟩) l.length cap] w fun e w' => ∃ a b1 b2 opv oko, e = .returned (.pointer (some ⟨a, 0, none⟩)) ∧ LI ⟨a, g, cap, b1, b2, okl, l⟩ w' oko opv S ∧ Below w.heap.size w w' ∧ w.heap.size ≤ b1 ∧ w.heap.size ≤ b2 := by
  unfold looked at hr
  rw [if_neg (by omega)] at hr
  have hm1 := make_spots hl
  have hm2 := make_slots hl
  have H := hid h
  have HLO := hid hlo
  have HR := hid hr
  have hl0' : (0 : Int) < (l.length : Int) := by omega
  clear h hlo hr
  have new : ∀ (W : World) (b1 b2 a : Nat), Below w.heap.size w W → w.heap.size ≤ b1 → w.heap.size ≤ b2 → w.heap.size ≤ a → b1 ≠ b2 → a ≠ b1 → a ≠ b2 → W.heap[b1]? = some (.cells (spCells (List.replicate l.length ⟨0, 0⟩)).toArray 40 (0, 0)) → W.heap[b2]? = some (.cells (slCells (List.replicate l.length 0)).toArray 3 (0, 0)) →
      W.heap[a]? = some (.cells #[.slice (some ⟨g, 0, none⟩) l.length cap, .slice (some ⟨b1, 0, none⟩) l.length l.length, .slice (some ⟨b2, 0, none⟩) l.length l.length, .slice none 0 0] 71 (0, 0)) → LI ⟨a, g, cap, b1, b2, okl, l⟩ W (fun _ => False) (.slice none 0 0) ⟨mark l.length 0, mark2 l.length 0, []⟩ := fun W b1 b2 a hB h1 h2 h3 h12 ha1 ha2 q1 q2 q3 =>
    ⟨q3, Kd.N_below H.out hB, by rw [mark_zero]; exact q1, by rw [mark2_zero]; exact q2, Kd.N_nil _ _ _ _ _, ⟨by simp [mark], by simp [mark2]⟩, ⟨Nat.zero_le _, fun x hx => by simp at hx⟩, fun k hk => by have := HLO.out k hk; exact ⟨by show k ≠ a; omega, by show k ≠ b1; omega, by show k ≠ b2; omega, fun h => h⟩, fun k hk => hk.elim, ⟨ha1, ha2, h12⟩, fun k hk => hk.elim, fun k hk => Nat.lt_of_lt_of_le (HLO.out k hk) hB.size⟩
  have NEW := hid new
  clear new
  go_enter Try.func31, Try.ntmps31
  go_upto_region 1 with fail
  go_cut [3] (fun x wx => ∃ a b1 b2, x = .pointer (some ⟨a, 0, none⟩) ∧ Box (LI ⟨a, g, cap, b1, b2, okl, l⟩ wx (fun _ => False) (.slice none 0 0) ⟨mark l.length 0, mark2 l.length 0, []⟩) ∧ Box (Below w.heap.size w wx) ∧ Box (w.heap.size ≤ b1 ∧ w.heap.size ≤ b2 ∧ w.heap.size ≤ a))
  case first =>
    go_region
    · go_wp2_with fail
      go_meet
      have hB : Below w.heap.size w ((((w.alloc (.cells (spCells (List.replicate l.length ⟨0, 0⟩)).toArray 40)).alloc (.cells (slCells (List.replicate l.length 0)).toArray 3)).alloc (.cells #[.slice (some ⟨g, 0, none⟩) l.length cap, .slice (some ⟨w.heap.size, 0, none⟩) l.length l.length, .slice (some ⟨w.heap.size + 1, 0, none⟩) l.length l.length, .slice none 0 0] 71)).drew) := ((((Below.refl _ _).alloc (Nat.le_refl _) _).alloc (by simp) _).alloc (by simp; omega) _).drew
      refine ⟨w.heap.size + 1 + 1, w.heap.size, w.heap.size + 1, rfl, hid (NEW.out _ _ _ _ hB (Nat.le_refl _) (by omega) (by omega) (by omega) (by omega) (by omega) ?_ ?_ ?_), hid hB, hid ⟨Nat.le_refl _, by omega, by omega⟩⟩
      · exact (heap_alloc_old _ _ (by simp; omega)).trans ((heap_alloc_old _ _ (by simp)).trans (heap_alloc_new _ _))
      · refine (heap_alloc_old _ _ (by simp)).trans ?_
        have := heap_alloc_new (w.alloc (.cells (spCells (List.replicate l.length ⟨0, 0⟩)).toArray 40)) (.cells (slCells (List.replicate l.length 0)).toArray 3)
        simpa using this
      · have := heap_alloc_new ((w.alloc (.cells (spCells (List.replicate l.length ⟨0, 0⟩)).toArray 40)).alloc (.cells (slCells (List.replicate l.length 0)).toArray 3)) (.cells #[.slice (some ⟨g, 0, none⟩) l.length cap, .slice (some ⟨w.heap.size, 0, none⟩) l.length l.length, .slice (some ⟨w.heap.size + 1, 0, none⟩) l.length l.length, .slice none 0 0] 71)
        have hz : ((w.alloc (.cells (spCells (List.replicate l.length ⟨0, 0⟩)).toArray 40)).alloc (.cells (slCells (List.replicate l.length 0)).toArray 3)).heap.size = w.heap.size + 1 + 1 := by simp
        rw [hz] at this
        exact this
    · go_wp2_with fail
      go_meet
      have hB : Below w.heap.size w ((((w.alloc (.cells (slCells (List.replicate l.length 0)).toArray 3)).alloc (.cells (spCells (List.replicate l.length ⟨0, 0⟩)).toArray 40)).alloc (.cells #[.slice (some ⟨g, 0, none⟩) l.length cap, .slice (some ⟨w.heap.size + 1, 0, none⟩) l.length l.length, .slice (some ⟨w.heap.size, 0, none⟩) l.length l.length, .slice none 0 0] 71)).drew) := ((((Below.refl _ _).alloc (Nat.le_refl _) _).alloc (by simp) _).alloc (by simp; omega) _).drew
      refine ⟨w.heap.size + 1 + 1, w.heap.size + 1, w.heap.size, rfl, hid (NEW.out _ _ _ _ hB (by omega) (Nat.le_refl _) (by omega) (by omega) (by omega) (by omega) ?_ ?_ ?_), hid hB, hid ⟨by omega, Nat.le_refl _, by omega⟩⟩
      · refine (heap_alloc_old _ _ (by simp)).trans ?_
        have := heap_alloc_new (w.alloc (.cells (slCells (List.replicate l.length 0)).toArray 3)) (.cells (spCells (List.replicate l.length ⟨0, 0⟩)).toArray 40)
        simpa using this
      · exact (heap_alloc_old _ _ (by simp; omega)).trans ((heap_alloc_old _ _ (by simp)).trans (heap_alloc_new _ _))
      · have := heap_alloc_new ((w.alloc (.cells (slCells (List.replicate l.length 0)).toArray 3)).alloc (.cells (spCells (List.replicate l.length ⟨0, 0⟩)).toArray 40)) (.cells #[.slice (some ⟨g, 0, none⟩) l.length cap, .slice (some ⟨w.heap.size + 1, 0, none⟩) l.length l.length, .slice (some ⟨w.heap.size, 0, none⟩) l.length l.length, .slice none 0 0] 71)
        have hz : ((w.alloc (.cells (slCells (List.replicate l.length 0)).toArray 3)).alloc (.cells (spCells (List.replicate l.length ⟨0, 0⟩)).toArray 40)).heap.size = w.heap.size + 1 + 1 := by simp
        rw [hz] at this
        exact this
  case rest =>
  obtain ⟨a, b1, b2, rfl, HI, HB, HLE⟩ := hcut
  clear hm1 hm2
  go_wp2_with fail
  go_loopw [16] (fun x wx => ∃ j : Nat, j ≤ l.length ∧ x = .int .i64 j ∧ Box (LI ⟨a, g, cap, b1, b2, okl, l⟩ wx (fun _ => False) (.slice none 0 0) ⟨mark l.length j, mark2 l.length j, []⟩) ∧ Box (Below w.heap.size w wx)) (fun x _ => l.length - (RowKit.intOf x).toNat)
  case atStart => exact ⟨0, Nat.zero_le _, rfl, HI, HB⟩
  case round =>
    clear HI HB
    obtain ⟨j, hj, rfl, HI, HB⟩ := hrel
    rcases Nat.lt_or_ge j l.length with hlt | hge
    · have hlt' : (j : Int) < (l.length : Int) := by omega
      have c1 : wr.cell? ⟨a, 1, none⟩ = some (.slice (some ⟨b1, 0, none⟩) l.length l.length) := HI.out.c1
      have c2 : wr.cell? ⟨a, 2, none⟩ = some (.slice (some ⟨b2, 0, none⟩) l.length l.length) := HI.out.c2
      have d1 : wr.cell? ⟨b1, j * 2, none⟩ = some (.int .i64 0) := (cell_of_row _ _ _ _ _ _ HI.out.sp).trans (by simpa using (spCells_at (mark_at hlt)).1)
      have d2 : wr.cell? ⟨b2, j, none⟩ = some (.int .i64 0) := (cell_of_row _ _ _ _ _ _ HI.out.sl).trans (by simp [slCells, mark2, hlt])
      have f1 : wr.frozen? ⟨b1, j * 2, none⟩ = false := HI.out.f1 _
      have f2 : wr.frozen? ⟨b2, j, none⟩ = false := HI.out.f2 _
      have hab1 : a ≠ b1 := HI.out.ne.1
      have hab2 : a ≠ b2 := HI.out.ne.2.1
      have hb12 : ¬ b2 = b1 := fun e => HI.out.ne.2.2 e.symm
      have hb12' : ¬ b1 = b2 := HI.out.ne.2.2
      have HS := hid (show ((((HI.out.below (Below.refl wr.heap.size wr).drew).setDepth (k := j) (mark_at hlt) (-1)).setSlot (k := j) (-1))) = _ from rfl)
      go_upto_region 5 with fail
      refine wp_region_until [14] (S := (fun w' => w'.cell? ⟨a, 1, none⟩ = some (.slice (some ⟨b1, 0, none⟩) l.length l.length) ∧ w'.cell? ⟨a, 2, none⟩ = some (.slice (some ⟨b2, 0, none⟩) l.length l.length))) (by kernel_rfl) ?_ ?_
      · go_keep
      intro hS
      refine wpAnyU_take (i := 0) (v := (.pointer (some ⟨a, 0, none⟩))) rfl (by kernel_rfl) (fun _ _ _ h => h) (leads_of [[14]] (by kernel_rfl)) (by kernel_rfl) (by kernel_rfl) (by kernel_rfl) (Or.inl ⟨by rfl, ?_⟩) hS ?_
      · intro w' hS'
        obtain ⟨s0, s1⟩ := hS'
        go_simp
      change wpAnyU _ _ _ _ _ _ _ _ (Act.put _ (some 19) _) _
      simp only [Act.put, List.setIfInBounds_toArray, List.set_cons_succ, List.set_cons_zero]
      refine wpAnyU_take (i := 1) (v := (.pointer (some ⟨a, 0, none⟩))) rfl (by kernel_rfl) (fun _ _ _ h => h) (leads_of [[14]] (by kernel_rfl)) (by kernel_rfl) (by kernel_rfl) (by kernel_rfl) (Or.inl ⟨by rfl, ?_⟩) hS ?_
      · intro w' hS'
        obtain ⟨s0, s1⟩ := hS'
        go_simp
      change wpAnyU _ _ _ _ _ _ _ _ (Act.put _ (some 20) _) _
      simp only [Act.put, List.setIfInBounds_toArray, List.set_cons_succ, List.set_cons_zero]
      refine wpAnyU_take (i := 2) (v := (.pointer (some ⟨a, 1, none⟩))) rfl (by kernel_rfl) (fun _ _ _ h => h) (leads_of [[14]] (by kernel_rfl)) (by kernel_rfl) (by kernel_rfl) (by kernel_rfl) (Or.inl ⟨by rfl, ?_⟩) hS ?_
      · intro w' hS'
        obtain ⟨s0, s1⟩ := hS'
        go_simp
      change wpAnyU _ _ _ _ _ _ _ _ (Act.put _ (some 21) _) _
      simp only [Act.put, List.setIfInBounds_toArray, List.set_cons_succ, List.set_cons_zero]
      refine wpAnyU_take (i := 3) (v := (.slice (some ⟨b1, 0, none⟩) l.length l.length)) rfl (by kernel_rfl) (fun _ _ _ h => h) (leads_of [[14]] (by kernel_rfl)) (by kernel_rfl) (by kernel_rfl) (by kernel_rfl) (Or.inl ⟨by rfl, ?_⟩) hS ?_
      · intro w' hS'
        obtain ⟨s0, s1⟩ := hS'
        go_simp
      change wpAnyU _ _ _ _ _ _ _ _ (Act.put _ (some 22) _) _
      simp only [Act.put, List.setIfInBounds_toArray, List.set_cons_succ, List.set_cons_zero]
      refine wpAnyU_take (i := 4) (v := (.int .i64 (j : Nat))) rfl (by kernel_rfl) (fun _ _ _ h => h) (leads_of [[14]] (by kernel_rfl)) (by kernel_rfl) (by kernel_rfl) (by kernel_rfl) (Or.inl ⟨by rfl, ?_⟩) hS ?_
      · intro w' hS'
        obtain ⟨s0, s1⟩ := hS'
        go_simp
      change wpAnyU _ _ _ _ _ _ _ _ (Act.put _ (some 23) _) _
      simp only [Act.put, List.setIfInBounds_toArray, List.set_cons_succ, List.set_cons_zero]
      refine wpAnyU_take (i := 5) (v := (.pointer (some ⟨a, 0, none⟩))) rfl (by kernel_rfl) (fun _ _ _ h => h) (leads_of [[14]] (by kernel_rfl)) (by kernel_rfl) (by kernel_rfl) (by kernel_rfl) (Or.inl ⟨by rfl, ?_⟩) hS ?_
      · intro w' hS'
        obtain ⟨s0, s1⟩ := hS'
        go_simp
      change wpAnyU _ _ _ _ _ _ _ _ (Act.put _ (some 24) _) _
      simp only [Act.put, List.setIfInBounds_toArray, List.set_cons_succ, List.set_cons_zero]
      refine wpAnyU_take (i := 6) (v := (.pointer (some ⟨a, 0, none⟩))) rfl (by kernel_rfl) (fun _ _ _ h => h) (leads_of [[14]] (by kernel_rfl)) (by kernel_rfl) (by kernel_rfl) (by kernel_rfl) (Or.inl ⟨by rfl, ?_⟩) hS ?_
      · intro w' hS'
        obtain ⟨s0, s1⟩ := hS'
        go_simp
      change wpAnyU _ _ _ _ _ _ _ _ (Act.put _ (some 25) _) _
      simp only [Act.put, List.setIfInBounds_toArray, List.set_cons_succ, List.set_cons_zero]
      refine wpAnyU_take (i := 7) (v := (.pointer (some ⟨a, 2, none⟩))) rfl (by kernel_rfl) (fun _ _ _ h => h) (leads_of [[14]] (by kernel_rfl)) (by kernel_rfl) (by kernel_rfl) (by kernel_rfl) (Or.inl ⟨by rfl, ?_⟩) hS ?_
      · intro w' hS'
        obtain ⟨s0, s1⟩ := hS'
        go_simp
      change wpAnyU _ _ _ _ _ _ _ _ (Act.put _ (some 26) _) _
      simp only [Act.put, List.setIfInBounds_toArray, List.set_cons_succ, List.set_cons_zero]
      refine wpAnyU_take (i := 8) (v := (.slice (some ⟨b2, 0, none⟩) l.length l.length)) rfl (by kernel_rfl) (fun _ _ _ h => h) (leads_of [[14]] (by kernel_rfl)) (by kernel_rfl) (by kernel_rfl) (by kernel_rfl) (Or.inl ⟨by rfl, ?_⟩) hS ?_
      · intro w' hS'
        obtain ⟨s0, s1⟩ := hS'
        go_simp
      change wpAnyU _ _ _ _ _ _ _ _ (Act.put _ (some 27) _) _
      simp only [Act.put, List.setIfInBounds_toArray, List.set_cons_succ, List.set_cons_zero]
      refine wpAnyU_take (i := 9) (v := (.int .i64 (j : Nat))) rfl (by kernel_rfl) (fun _ _ _ h => h) (leads_of [[14]] (by kernel_rfl)) (by kernel_rfl) (by kernel_rfl) (by kernel_rfl) (Or.inl ⟨by rfl, ?_⟩) hS ?_
      · intro w' hS'
        obtain ⟨s0, s1⟩ := hS'
        go_simp
      change wpAnyU _ _ _ _ _ _ _ _ (Act.put _ (some 28) _) _
      simp only [Act.put, List.setIfInBounds_toArray, List.set_cons_succ, List.set_cons_zero]
      refine wpAnyU_take (i := 10) (v := (.pointer (some ⟨b1, j * 2, none⟩))) rfl (by kernel_rfl) (fun _ _ _ h => h) (leads_of [[14]] (by kernel_rfl)) (by kernel_rfl) (by kernel_rfl) (by kernel_rfl) (Or.inl ⟨by rfl, ?_⟩) hS ?_
      · intro w' hS'
        obtain ⟨s0, s1⟩ := hS'
        go_simp
      change wpAnyU _ _ _ _ _ _ _ _ (Act.put _ (some 29) _) _
      simp only [Act.put, List.setIfInBounds_toArray, List.set_cons_succ, List.set_cons_zero]
      refine wpAnyU_take (i := 11) (v := (.pointer (some ⟨b1, j * 2, none⟩))) rfl (by kernel_rfl) (fun _ _ _ h => h) (leads_of [[14]] (by kernel_rfl)) (by kernel_rfl) (by kernel_rfl) (by kernel_rfl) (Or.inl ⟨by rfl, ?_⟩) hS ?_
      · intro w' hS'
        obtain ⟨s0, s1⟩ := hS'
        go_simp
      change wpAnyU _ _ _ _ _ _ _ _ (Act.put _ (some 30) _) _
      simp only [Act.put, List.setIfInBounds_toArray, List.set_cons_succ, List.set_cons_zero]
      refine wpAnyU_all (rs := [12]) (by kernel_rfl) (by simp) ?_
      intro j hj
      obtain rfl := List.mem_singleton.1 hj
      clear hj
      refine wpOp_shut rfl (fun K' HK => ?_)
      go_simp
      refine HK.out _ _ ⟨.inr ?_, ?_⟩
      · exact ⟨far_cell (W := wr.drew) (b := b1) (o := j * 2) hab1 (.int .i64 (-1)) c1, far_cell (W := wr.drew) (b := b1) (o := j * 2) hab1 (.int .i64 (-1)) c2⟩
      clear HK K'
      have hS := And.intro (far_cell (W := wr.drew) (b := b1) (o := j * 2) hab1 (.int .i64 (-1)) c1) (far_cell (W := wr.drew) (b := b1) (o := j * 2) hab1 (.int .i64 (-1)) c2)
      refine wpAnyU_take (i := 13) (v := (.pointer (some ⟨b2, j, none⟩))) rfl (by kernel_rfl) (fun _ _ _ h => h) (leads_of [[14]] (by kernel_rfl)) (by kernel_rfl) (by kernel_rfl) (by kernel_rfl) (Or.inl ⟨by rfl, ?_⟩) hS ?_
      · intro w' hS'
        obtain ⟨s0, s1⟩ := hS'
        go_simp
      change wpAnyU _ _ _ _ _ _ _ _ (Act.put _ (some 31) _) _
      simp only [Act.put, List.setIfInBounds_toArray, List.set_cons_succ, List.set_cons_zero]
      refine wpAnyU_all (rs := [14]) (by kernel_rfl) (by simp) ?_
      intro j hj
      obtain rfl := List.mem_singleton.1 hj
      clear hj
      refine wpOp_shut rfl (fun K' HK => ?_)
      go_simp
      refine HK.out _ _ ⟨.inl (by decide), ?_⟩
      clear HK K'
      refine wpAnyU_done (by kernel_rfl) ?_ _
      go_wp2_with fail
      go_roundw
      case rel =>
        refine ⟨j + 1, by omega, by go_num, hid ?_, hid ?_⟩
        · have h1 := ((HI.out.below (Below.refl wr.heap.size wr).drew).setDepth (k := j) (mark_at hlt) (-1)).setSlot (k := j) (-1)
          simp only [Lk.spot, mark_set hlt, mark2_set hlt] at h1
          exact h1
        · exact (HB.out.drew.setCell (p := ⟨b1, j * 2, none⟩) HLE.out.1 _).setCell (p := ⟨b2, j, none⟩) HLE.out.2.1 _
      case measure => simp [RowKit.intOf]; omega
    · obtain rfl : j = l.length := by omega
      rw [mark_end, mark2_end] at HI
      have hlook := look_ok ⟨a, g, cap, b1, b2, okl, l⟩ m HR.out HI.out
      have HLK := hid hlook
      have e1 : ((l.length - 1 : Nat) : Int) = (l.length : Int) - 1 := by omega
      clear hlook
      rw [e1] at HLK
      go_wp2_with fail
      refine HLK.out.mono ?_
      rintro e w2 ⟨rfl, o2, v2, h2, k2, s2⟩
      have H2 := hid h2
      have HB2 := hid (below_kp HB.out (Nat.le_refl _) k2 (fun k hk => by
        rcases hk with q | q | q | q
        · rw [q]; exact HLE.out.2.2
        · rw [q]; exact HLE.out.1
        · rw [q]; exact HLE.out.2.1
        · exact q.elim))
      clear h2 k2 s2
      go_wp2_with fail
      go_ret
      exact ⟨a, b1, b2, _, _, rfl, H2.out, HB2.out, HLE.out.1, HLE.out.2.1⟩
end
end Go.Proofs.Yticbjhicjegfoaa.Q
