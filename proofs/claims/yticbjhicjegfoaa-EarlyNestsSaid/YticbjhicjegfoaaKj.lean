/- What a proof further on needs (part j). -/
import Derived.Deep.OwnRows
import Derived.Test.YticbjhicjegfoaaKh
import Derived.Test.YticbjhicjegfoaaKi
set_option linter.unusedVariables false
namespace Go.Proofs.Yticbjhicjegfoaa.Q
open Go.RowKit
open Go.Proofs.YticbjhicjegfoaaW.PrintWords
theorem look_ok (G : LG) (m : Nat) : LookOk G m := by
  induction m with
  | zero =>
    unfold LookOk
    intro k S S' hr
    unfold lookF at hr
    cases hr
  | succ m ih =>
    unfold LookOk
    intro k S S' hr w oko opv h
    unfold lookF at hr
    obtain ⟨n, hk, hr⟩ := Option.bind_eq_some_iff.1 hr
    obtain ⟨d, hd, hr⟩ := Option.bind_eq_some_iff.1 hr
    split at hr
    · rename_i hks
      have hd' := hd
      unfold declF at hd'
      rw [hk, Option.bind_some] at hd'
      unfold bodyF at hr
      cases d with
      | some s =>
        have hkd : n.kind = 21 ∨ n.kind = 22 ∨ n.kind = 23 := by
          split at hd'
          · omega
          · split at hd'
            · omega
            · cases hd'
        rw [if_neg (by omega), if_neg (by omega), if_neg (by omega), if_neg (by omega), if_neg (by omega)] at hr
        exact look_decl ih h hk hd hks (hid hkd) rfl hr
      | none =>
        split at hr
        · rename_i h3
          exact look_name ih h hk hd hks (hid h3) rfl hr
        split at hr
        · rename_i h3
          exact look_fun ih h hk hd (hid h3) rfl hr
        split at hr
        · rename_i h3
          exact look_all ih h hk hd (hid h3) rfl hr
        split at hr
        · rename_i h3
          obtain ⟨ns, hns, hr⟩ := Option.bind_eq_some_iff.1 hr
          split at hr
          · rename_i hl
            exact look_scope ih h hk hd (hid h3) rfl (hid hns) hl hr
          · rename_i hl
            exact look_block ih h hk hd (hid h3) rfl (hid hns) hl hr
        split at hr
        · rename_i h3
          obtain ⟨k0, q0, hr⟩ := Option.bind_eq_some_iff.1 hr
          obtain ⟨k1, q1, hr⟩ := Option.bind_eq_some_iff.1 hr
          obtain ⟨S2, q2, hr⟩ := Option.bind_eq_some_iff.1 hr
          obtain ⟨n1, q3, hr⟩ := Option.bind_eq_some_iff.1 hr
          exact look_try ih h hk hd (hid h3) rfl (hid q0) (hid q1) (hid q3) (hid q2) hr
        · rename_i p3 p10 p33 p25 p32
          exact look_other ih h hk hd (hid ⟨p3, p10, p33, p25, p32⟩) rfl hr
    · cases hr
theorem infoSpot : (Try.prog.info? 40).map (fun i => (i.zero, i.size, i.bytes)) = some (some (.agg #[.int .i64 0, .int .i64 0]), 2, 16) := by kernel_rfl
theorem make_spots {n : Nat} (hn : n ≤ 1048576) (w : World) : (Instr.makeSlice 33 (.int .i64 (n : Int)) (.int .i64 (n : Int))).run Try.prog w = .ok (.slice (some ⟨w.heap.size, 0, none⟩) n n) (w.alloc (.cells (spCells (List.replicate n ⟨0, 0⟩)).toArray 40)) := by
  obtain ⟨i, hi, hz0, hz1, hz2⟩ := info_parts infoSpot
  have h := run_make (P := Try.prog) (w := w) 33 40 i _ Try.underlying33 hi hz0 .i64 .i64 (n : Int) (n : Int) (by omega) (Int.le_refl _) (by rw [hz2]; omega) (by omega)
  rw [h, hz1, Int.toNat_natCast]
  have e : madeCells (Value.agg #[.int .i64 0, .int .i64 0]).cells (n * 2) = (spCells (List.replicate n ⟨0, 0⟩)).toArray := by
    have key : ∀ n : Nat, (spCells (List.replicate n ⟨0, 0⟩)) = List.replicate (n * 2) (Value.int .i64 0) := by
      intro n
      induction n with
      | zero => rfl
      | succ n ih =>
        rw [List.replicate_succ, show (n + 1) * 2 = n * 2 + 1 + 1 by omega, List.replicate_succ, List.replicate_succ, ← ih]
        rfl
    rw [key]
    have hc : (Value.agg #[.int .i64 0, .int .i64 0]).cells = #[.int .i64 0, .int .i64 0] := rfl
    rw [hc]
    apply Array.toList_inj.1
    apply List.ext_getElem?
    intro j
    unfold madeCells
    by_cases h : j < n * 2
    · have h2 : j % 2 = 0 ∨ j % 2 = 1 := by omega
      rcases h2 with h2 | h2 <;> simp [h, h2]
    · simp [h]
  rw [e]
theorem make_slots {n : Nat} (hn : n ≤ 1048576) (w : World) : (Instr.makeSlice 36 (.int .i64 (n : Int)) (.int .i64 (n : Int))).run Try.prog w = .ok (.slice (some ⟨w.heap.size, 0, none⟩) n n) (w.alloc (.cells (slCells (List.replicate n 0)).toArray 3)) := by
  rw [run_make_row' 36 3 (.int .i64 0) 8 Try.underlying36 infoInt rfl .i64 .i64 n (by omega) (by omega) w]
  have e : madeCells #[.int .i64 0] n = (slCells (List.replicate n 0)).toArray := by
    apply Array.toList_inj.1
    rw [toList_madeCells_one]
    simp [slCells]
  rw [e]
end Go.Proofs.Yticbjhicjegfoaa.Q
namespace Go.Proofs.Yticbjhicjegfoaa.Q
open Go.RowKit
open Go.Proofs.YticbjhicjegfoaaW.PrintWords
def mark (n j : Nat) : List Sp := (List.range n).map fun i => if i < j then ⟨-1, 0⟩ else ⟨0, 0⟩
def mark2 (n j : Nat) : List Int := (List.range n).map fun i => if i < j then -1 else 0
theorem mark_set {n j : Nat} (h : j < n) : (mark n j).set j ⟨-1, 0⟩ = mark n (j + 1) := by
  apply List.ext_getElem?
  intro i
  unfold mark
  rw [List.getElem?_set]
  by_cases hij : j = i
  · subst hij
    simp [h]
  · rw [if_neg hij]
    simp only [List.getElem?_map]
    cases hi : (List.range n)[i]? with
    | none => rfl
    | some x =>
      obtain ⟨h1, h2⟩ := List.getElem?_eq_some_iff.1 hi
      simp only [List.getElem_range] at h2
      subst h2
      simp only [Option.map_some]
      by_cases h3 : i < j
      · rw [if_pos h3, if_pos (by omega)]
      · rw [if_neg h3, if_neg (by omega)]
theorem mark2_set {n j : Nat} (h : j < n) : (mark2 n j).set j (-1) = mark2 n (j + 1) := by
  apply List.ext_getElem?
  intro i
  unfold mark2
  rw [List.getElem?_set]
  by_cases hij : j = i
  · subst hij
    simp [h]
  · rw [if_neg hij]
    simp only [List.getElem?_map]
    cases hi : (List.range n)[i]? with
    | none => rfl
    | some x =>
      obtain ⟨h1, h2⟩ := List.getElem?_eq_some_iff.1 hi
      simp only [List.getElem_range] at h2
      subst h2
      simp only [Option.map_some]
      by_cases h3 : i < j
      · rw [if_pos h3, if_pos (by omega)]
      · rw [if_neg h3, if_neg (by omega)]
theorem mark_at {n j : Nat} (h : j < n) : (mark n j)[j]? = some ⟨0, 0⟩ := by simp [mark, h]
theorem mark_end (l : List Nd) : mark l.length l.length = l.map fun _ => ⟨-1, 0⟩ := by
  apply List.ext_getElem?
  intro i
  unfold mark
  by_cases h : i < l.length <;> simp [h]
theorem mark2_end (l : List Nd) : mark2 l.length l.length = l.map fun _ => -1 := by
  apply List.ext_getElem?
  intro i
  unfold mark2
  by_cases h : i < l.length <;> simp [h]
theorem mark_zero (n : Nat) : mark n 0 = List.replicate n ⟨0, 0⟩ := by
  apply List.ext_getElem?
  intro i
  unfold mark
  by_cases h : i < n <;> simp [h]
theorem mark2_zero (n : Nat) : mark2 n 0 = List.replicate n 0 := by
  apply List.ext_getElem?
  intro i
  unfold mark2
  by_cases h : i < n <;> simp [h]
theorem below_kp {w w1 w2 : World} {n : Nat} {K : Nat → Prop} (hb : Below n w w1) (hn : n ≤ w.heap.size) (hk : Kp K w1 w2) (h : ∀ k, K k → n ≤ k) : Below n w w2 :=
  ⟨hk.os.trans hb.os, hk.tape.trans hb.tape, hk.output.trans hb.output, Nat.le_trans hb.size hk.size, fun k hlt => (hk.block k (by have := hb.size; omega) (fun q => by have := h k q; omega)).trans (hb.block k hlt)⟩
theorem far_cell {W : World} {a b i o : Nat} {v : Value} (hne : a ≠ b) (u : Value) (h : W.cell? ⟨a, i, none⟩ = some v) : (W.setCell ⟨b, o, none⟩ u).cell? ⟨a, i, none⟩ = some v :=
  (World.cell?_of_block (w := W) (a := ⟨a, i, none⟩) (Below.heap_setCell W ⟨b, o, none⟩ u a hne)).trans h
/-- The depth of a spot is set. -/
theorem LI.setDepth {G : LG} {w : World} {oko : Nat → Prop} {opv : Value} {S : Lk} (h : LI G w oko opv S) {k : Nat} {p : Sp} (hk : S.spots[k]? = some p) (x : Int) : LI G (w.setCell ⟨G.b1, k * 2, none⟩ (.int .i64 x)) oko opv (S.spot k ⟨x, p.slot⟩) := by
  have hk' : Kp (fun j => j = G.b1) w (w.setCell ⟨G.b1, k * 2, none⟩ (.int .i64 x)) := Kp.set (K := fun j => j = G.b1) (p := ⟨G.b1, k * 2, none⟩) _ rfl
  refine ⟨hk'.heap h.cell h.ne.1, Kd.N_kept h.nodes hk'.kept (fun j hj => (h.offl j hj).2.1), ?_, hk'.heap h.sl h.ne.2.2.symm, Kd.N_kept h.opn hk'.kept (fun j hj => (h.offo j hj).2.1), ⟨by simpa [Lk.spot] using h.lens.1, h.lens.2⟩, h.nopen, h.offl, h.offo, h.ne, fun j hj => Nat.lt_of_lt_of_le (h.lo j hj) hk'.size, fun j hj => Nat.lt_of_lt_of_le (h.lol j hj) hk'.size⟩
  refine blk_put h.sp (k * 2) (.int .i64 x) ?_
  have h2 := (spCells_at hk).2
  obtain ⟨h3, h4⟩ := List.getElem?_eq_some_iff.1 h2
  unfold Lk.spot
  simp only [spCells_set, List.setIfInBounds_toArray]
  congr 1
  symm
  apply List.ext_getElem?
  intro i
  rw [List.getElem?_set]
  by_cases hi : k * 2 + 1 = i
  · subst hi
    rw [if_pos rfl, List.getElem?_set_ne (by omega), h2]
    simp [h3]
  · rw [if_neg hi]
section
variable {w : World} {okl : Nat → Prop} {g cap : Nat} {l : List Nd}
set_option maxHeartbeats 3200000 in
set_option maxRecDepth 100000 in
theorem looked_c (h : NR w okl g cap l) (hlo : ∀ k, okl k → k < w.heap.size) (hl : l.length ≤ 1048576) (hl0 : 0 < l.length) {m : Nat} {S : Lk} (hr : looked m l = some S) :
    Calls Try.prog 31 #[.slice (some ⟨g, 0, none⟩) l.length cap] w fun e w' => ∃ a b1 b2 opv oko, e = .returned (.pointer (some ⟨a, 0, none⟩)) ∧ LI ⟨a, g, cap, b1, b2, okl, l⟩ w' oko opv S ∧ Below w.heap.size w w' ∧ w.heap.size ≤ b1 ∧ w.heap.size ≤ b2 := by
  unfold looked at hr
  rw [if_neg (by omega)] at hr
  have hm1 := make_spots hl
  have hm2 := make_slots hl
  have H := hid h
  have HLO := hid hlo
  have HR := hid hr
  have hl0' : (0 : Int) < (l.length : Int) := by omega
  clear h hlo hr
  have new : ∀ (W : World) (b1 b2 a : Nat), Below w.heap.size w W → w.heap.size ≤ b1 → w.heap.size ≤ b2 → w.heap.size ≤ a → b1 ≠ b2 → a ≠ b1 → a ≠ b2 → W.heap[b1]? = some (.cells (spCells (List.replicate l.length ⟨0, 0⟩)).toArray 40 (0, 0)) → W.heap[b2]? = some (.cells (slCells (List.replicate l.length 0)).toArray 3 (0, 0)) →
      W.heap[a]? = some (.cells #[.slice (some ⟨g, 0, none⟩) l.length cap, .slice (some ⟨b1, 0, none⟩) l.length l.length, .slice (some ⟨b2, 0, none⟩) l.length l.length, .slice none 0 0] 71 (0, 0)) → LI ⟨a, g, cap, b1, b2, okl, l⟩ W (fun _ => False) (.slice none 0 0) ⟨mark l.length 0, mark2 l.length 0, []⟩ := fun W b1 b2 a hB h1 h2 h3 h12 ha1 ha2 q1 q2 q3 =>
    ⟨q3, Kd.N_below H.out hB, by rw [mark_zero]; exact q1, by rw [mark2_zero]; exact q2, Kd.N_nil _ _ _ _ _, ⟨by simp [mark], by simp [mark2]⟩, ⟨Nat.zero_le _, fun x hx => by simp at hx⟩, fun k hk => by have := HLO.out k hk; exact ⟨by show k ≠ a; omega, by show k ≠ b1; omega, by show k ≠ b2; omega, fun h => h⟩, fun k hk => hk.elim, ⟨ha1, ha2, h12⟩, fun k hk => hk.elim, fun k hk => Nat.lt_of_lt_of_le (HLO.out k hk) hB.size⟩
  have NEW := hid new
  clear new
  go_enter Try.func31, Try.ntmps31
  go_upto_region 1 with fail
  go_cut [3] (fun x wx => ∃ a b1 b2, x = .pointer (some ⟨a, 0, none⟩) ∧ Box (LI ⟨a, g, cap, b1, b2, okl, l⟩ wx (fun _ => False) (.slice none 0 0) ⟨mark l.length 0, mark2 l.length 0, []⟩) ∧ Box (Below w.heap.size w wx) ∧ Box (w.heap.size ≤ b1 ∧ w.heap.size ≤ b2 ∧ w.heap.size ≤ a))
  case first =>
    go_region
    · go_wp2_with fail
      go_meet
      have hB : Below w.heap.size w ((((w.alloc (.cells (spCells (List.replicate l.length ⟨0, 0⟩)).toArray 40)).alloc (.cells (slCells (List.replicate l.length 0)).toArray 3)).alloc (.cells #[.slice (some ⟨g, 0, none⟩) l.length cap, .slice (some ⟨w.heap.size, 0, none⟩) l.length l.length, .slice (some ⟨w.heap.size + 1, 0, none⟩) l.length l.length, .slice none 0 0] 71)).drew) := ((((Below.refl _ _).alloc (Nat.le_refl _) _).alloc (by simp) _).alloc (by simp; omega) _).drew
      refine ⟨w.heap.size + 1 + 1, w.heap.size, w.heap.size + 1, rfl, hid (NEW.out _ _ _ _ hB (Nat.le_refl _) (by omega) (by omega) (by omega) (by omega) (by omega) ?_ ?_ ?_), hid hB, hid ⟨Nat.le_refl _, by omega, by omega⟩⟩
      · exact (heap_alloc_old _ _ (by simp; omega)).trans ((heap_alloc_old _ _ (by simp)).trans (heap_alloc_new _ _))
      · refine (heap_alloc_old _ _ (by simp)).trans ?_
        have := heap_alloc_new (w.alloc (.cells (spCells (List.replicate l.length ⟨0, 0⟩)).toArray 40)) (.cells (slCells (List.replicate l.length 0)).toArray 3)
        simpa using this
      · have := heap_alloc_new ((w.alloc (.cells (spCells (List.replicate l.length ⟨0, 0⟩)).toArray 40)).alloc (.cells (slCells (List.replicate l.length 0)).toArray 3)) (.cells #[.slice (some ⟨g, 0, none⟩) l.length cap, .slice (some ⟨w.heap.size, 0, none⟩) l.length l.length, .slice (some ⟨w.heap.size + 1, 0, none⟩) l.length l.length, .slice none 0 0] 71)
        have hz : ((w.alloc (.cells (spCells (List.replicate l.length ⟨0, 0⟩)).toArray 40)).alloc (.cells (slCells (List.replicate l.length 0)).toArray 3)).heap.size = w.heap.size + 1 + 1 := by simp
        rw [hz] at this
        exact this
    · go_wp2_with fail
      go_meet
      have hB : Below w.heap.size w ((((w.alloc (.cells (slCells (List.replicate l.length 0)).toArray 3)).alloc (.cells (spCells (List.replicate l.length ⟨0, 0⟩)).toArray 40)).alloc (.cells #[.slice (some ⟨g, 0, none⟩) l.length cap, .slice (some ⟨w.heap.size + 1, 0, none⟩) l.length l.length, .slice (some ⟨w.heap.size, 0, none⟩) l.length l.length, .slice none 0 0] 71)).drew) := ((((Below.refl _ _).alloc (Nat.le_refl _) _).alloc (by simp) _).alloc (by simp; omega) _).drew
      refine ⟨w.heap.size + 1 + 1, w.heap.size + 1, w.heap.size, rfl, hid (NEW.out _ _ _ _ hB (by omega) (Nat.le_refl _) (by omega) (by omega) (by omega) (by omega) ?_ ?_ ?_), hid hB, hid ⟨by omega, Nat.le_refl _, by omega⟩⟩
      · refine (heap_alloc_old _ _ (by simp)).trans ?_
        have := heap_alloc_new (w.alloc (.cells (slCells (List.replicate l.length 0)).toArray 3)) (.cells (spCells (List.replicate l.length ⟨0, 0⟩)).toArray 40)
        simpa using this
      · exact (heap_alloc_old _ _ (by simp; omega)).trans ((heap_alloc_old _ _ (by simp)).trans (heap_alloc_new _ _))
      · have := heap_alloc_new ((w.alloc (.cells (slCells (List.replicate l.length 0)).toArray 3)).alloc (.cells (spCells (List.replicate l.length ⟨0, 0⟩)).toArray 40)) (.cells #[.slice (some ⟨g, 0, none⟩) l.length cap, .slice (some ⟨w.heap.size + 1, 0, none⟩) l.length l.length, .slice (some ⟨w.heap.size, 0, none⟩) l.length l.length, .slice none 0 0] 71)
        have hz : ((w.alloc (.cells (slCells (List.replicate l.length 0)).toArray 3)).alloc (.cells (spCells (List.replicate l.length ⟨0, 0⟩)).toArray 40)).heap.size = w.heap.size + 1 + 1 := by simp
        rw [hz] at this
        exact this
  case rest =>
  obtain ⟨a, b1, b2, rfl, HI, HB, HLE⟩ := hcut
  clear hm1 hm2
  go_wp2_with fail
  go_loopw [16] (fun x wx => ∃ j : Nat, j ≤ l.length ∧ x = .int .i64 j ∧ Box (LI ⟨a, g, cap, b1, b2, okl, l⟩ wx (fun _ => False) (.slice none 0 0) ⟨mark l.length j, mark2 l.length j, []⟩) ∧ Box (Below w.heap.size w wx)) (fun x _ => l.length - (RowKit.intOf x).toNat)
  case atStart => exact ⟨0, Nat.zero_le _, rfl, HI, HB⟩
  case round =>
    clear HI HB
    obtain ⟨j, hj, rfl, HI, HB⟩ := hrel
    rcases Nat.lt_or_ge j l.length with hlt | hge
    · have hlt' : (j : Int) < (l.length : Int) := by omega
      have c1 : wr.cell? ⟨a, 1, none⟩ = some (.slice (some ⟨b1, 0, none⟩) l.length l.length) := HI.out.c1
      have c2 : wr.cell? ⟨a, 2, none⟩ = some (.slice (some ⟨b2, 0, none⟩) l.length l.length) := HI.out.c2
      have d1 : wr.cell? ⟨b1, j * 2, none⟩ = some (.int .i64 0) := (cell_of_row _ _ _ _ _ _ HI.out.sp).trans (by simpa using (spCells_at (mark_at hlt)).1)
      have d2 : wr.cell? ⟨b2, j, none⟩ = some (.int .i64 0) := (cell_of_row _ _ _ _ _ _ HI.out.sl).trans (by simp [slCells, mark2, hlt])
      have f1 : wr.frozen? ⟨b1, j * 2, none⟩ = false := HI.out.f1 _
      have f2 : wr.frozen? ⟨b2, j, none⟩ = false := HI.out.f2 _
      have hab1 : a ≠ b1 := HI.out.ne.1
      have hab2 : a ≠ b2 := HI.out.ne.2.1
      have hb12 : ¬ b2 = b1 := fun e => HI.out.ne.2.2 e.symm
      have hb12' : ¬ b1 = b2 := HI.out.ne.2.2
      have HS := hid (show ((((HI.out.below (Below.refl wr.heap.size wr).drew).setDepth (k := j) (mark_at hlt) (-1)).setSlot (k := j) (-1))) = _ from rfl)
      go_upto_region 5 with fail
      refine wp_region_until [14] (S := (fun w' => w'.cell? ⟨a, 1, none⟩ = some (.slice (some ⟨b1, 0, none⟩) l.length l.length) ∧ w'.cell? ⟨a, 2, none⟩ = some (.slice (some ⟨b2, 0, none⟩) l.length l.length))) (by kernel_rfl) ?_ ?_
      · go_keep
      intro hS
      refine wpAnyU_take (i := 0) (v := (.pointer (some ⟨a, 0, none⟩))) rfl (by kernel_rfl) (fun _ _ _ h => h) (leads_of [[14]] (by kernel_rfl)) (by kernel_rfl) (by kernel_rfl) (by kernel_rfl) (Or.inl ⟨by rfl, ?_⟩) hS ?_
      · intro w' hS'
        obtain ⟨s0, s1⟩ := hS'
        go_simp
      change wpAnyU _ _ _ _ _ _ _ _ (Act.put _ (some 19) _) _
      simp only [Act.put, List.setIfInBounds_toArray, List.set_cons_succ, List.set_cons_zero]
      refine wpAnyU_take (i := 1) (v := (.pointer (some ⟨a, 0, none⟩))) rfl (by kernel_rfl) (fun _ _ _ h => h) (leads_of [[14]] (by kernel_rfl)) (by kernel_rfl) (by kernel_rfl) (by kernel_rfl) (Or.inl ⟨by rfl, ?_⟩) hS ?_
      · intro w' hS'
        obtain ⟨s0, s1⟩ := hS'
        go_simp
      change wpAnyU _ _ _ _ _ _ _ _ (Act.put _ (some 20) _) _
      simp only [Act.put, List.setIfInBounds_toArray, List.set_cons_succ, List.set_cons_zero]
      refine wpAnyU_take (i := 2) (v := (.pointer (some ⟨a, 1, none⟩))) rfl (by kernel_rfl) (fun _ _ _ h => h) (leads_of [[14]] (by kernel_rfl)) (by kernel_rfl) (by kernel_rfl) (by kernel_rfl) (Or.inl ⟨by rfl, ?_⟩) hS ?_
      · intro w' hS'
        obtain ⟨s0, s1⟩ := hS'
        go_simp
      change wpAnyU _ _ _ _ _ _ _ _ (Act.put _ (some 21) _) _
      simp only [Act.put, List.setIfInBounds_toArray, List.set_cons_succ, List.set_cons_zero]
      refine wpAnyU_take (i := 3) (v := (.slice (some ⟨b1, 0, none⟩) l.length l.length)) rfl (by kernel_rfl) (fun _ _ _ h => h) (leads_of [[14]] (by kernel_rfl)) (by kernel_rfl) (by kernel_rfl) (by kernel_rfl) (Or.inl ⟨by rfl, ?_⟩) hS ?_
      · intro w' hS'
        obtain ⟨s0, s1⟩ := hS'
        go_simp
      change wpAnyU _ _ _ _ _ _ _ _ (Act.put _ (some 22) _) _
      simp only [Act.put, List.setIfInBounds_toArray, List.set_cons_succ, List.set_cons_zero]
      refine wpAnyU_take (i := 4) (v := (.int .i64 (j : Nat))) rfl (by kernel_rfl) (fun _ _ _ h => h) (leads_of [[14]] (by kernel_rfl)) (by kernel_rfl) (by kernel_rfl) (by kernel_rfl) (Or.inl ⟨by rfl, ?_⟩) hS ?_
      · intro w' hS'
        obtain ⟨s0, s1⟩ := hS'
        go_simp
      change wpAnyU _ _ _ _ _ _ _ _ (Act.put _ (some 23) _) _
      simp only [Act.put, List.setIfInBounds_toArray, List.set_cons_succ, List.set_cons_zero]
      refine wpAnyU_take (i := 5) (v := (.pointer (some ⟨a, 0, none⟩))) rfl (by kernel_rfl) (fun _ _ _ h => h) (leads_of [[14]] (by kernel_rfl)) (by kernel_rfl) (by kernel_rfl) (by kernel_rfl) (Or.inl ⟨by rfl, ?_⟩) hS ?_
      · intro w' hS'
        obtain ⟨s0, s1⟩ := hS'
        go_simp
      change wpAnyU _ _ _ _ _ _ _ _ (Act.put _ (some 24) _) _
      simp only [Act.put, List.setIfInBounds_toArray, List.set_cons_succ, List.set_cons_zero]
      refine wpAnyU_take (i := 6) (v := (.pointer (some ⟨a, 0, none⟩))) rfl (by kernel_rfl) (fun _ _ _ h => h) (leads_of [[14]] (by kernel_rfl)) (by kernel_rfl) (by kernel_rfl) (by kernel_rfl) (Or.inl ⟨by rfl, ?_⟩) hS ?_
      · intro w' hS'
        obtain ⟨s0, s1⟩ := hS'
        go_simp
      change wpAnyU _ _ _ _ _ _ _ _ (Act.put _ (some 25) _) _
      simp only [Act.put, List.setIfInBounds_toArray, List.set_cons_succ, List.set_cons_zero]
      refine wpAnyU_take (i := 7) (v := (.pointer (some ⟨a, 2, none⟩))) rfl (by kernel_rfl) (fun _ _ _ h => h) (leads_of [[14]] (by kernel_rfl)) (by kernel_rfl) (by kernel_rfl) (by kernel_rfl) (Or.inl ⟨by rfl, ?_⟩) hS ?_
      · intro w' hS'
        obtain ⟨s0, s1⟩ := hS'
        go_simp
      change wpAnyU _ _ _ _ _ _ _ _ (Act.put _ (some 26) _) _
      simp only [Act.put, List.setIfInBounds_toArray, List.set_cons_succ, List.set_cons_zero]
      refine wpAnyU_take (i := 8) (v := (.slice (some ⟨b2, 0, none⟩) l.length l.length)) rfl (by kernel_rfl) (fun _ _ _ h => h) (leads_of [[14]] (by kernel_rfl)) (by kernel_rfl) (by kernel_rfl) (by kernel_rfl) (Or.inl ⟨by rfl, ?_⟩) hS ?_
      · intro w' hS'
        obtain ⟨s0, s1⟩ := hS'
        go_simp
      change wpAnyU _ _ _ _ _ _ _ _ (Act.put _ (some 27) _) _
      simp only [Act.put, List.setIfInBounds_toArray, List.set_cons_succ, List.set_cons_zero]
      refine wpAnyU_take (i := 9) (v := (.int .i64 (j : Nat))) rfl (by kernel_rfl) (fun _ _ _ h => h) (leads_of [[14]] (by kernel_rfl)) (by kernel_rfl) (by kernel_rfl) (by kernel_rfl) (Or.inl ⟨by rfl, ?_⟩) hS ?_
      · intro w' hS'
        obtain ⟨s0, s1⟩ := hS'
        go_simp
      change wpAnyU _ _ _ _ _ _ _ _ (Act.put _ (some 28) _) _
      simp only [Act.put, List.setIfInBounds_toArray, List.set_cons_succ, List.set_cons_zero]
      refine wpAnyU_take (i := 10) (v := (.pointer (some ⟨b1, j * 2, none⟩))) rfl (by kernel_rfl) (fun _ _ _ h => h) (leads_of [[14]] (by kernel_rfl)) (by kernel_rfl) (by kernel_rfl) (by kernel_rfl) (Or.inl ⟨by rfl, ?_⟩) hS ?_
      · intro w' hS'
        obtain ⟨s0, s1⟩ := hS'
        go_simp
      change wpAnyU _ _ _ _ _ _ _ _ (Act.put _ (some 29) _) _
      simp only [Act.put, List.setIfInBounds_toArray, List.set_cons_succ, List.set_cons_zero]
      refine wpAnyU_take (i := 11) (v := (.pointer (some ⟨b1, j * 2, none⟩))) rfl (by kernel_rfl) (fun _ _ _ h => h) (leads_of [[14]] (by kernel_rfl)) (by kernel_rfl) (by kernel_rfl) (by kernel_rfl) (Or.inl ⟨by rfl, ?_⟩) hS ?_
      · intro w' hS'
        obtain ⟨s0, s1⟩ := hS'
        go_simp
      change wpAnyU _ _ _ _ _ _ _ _ (Act.put _ (some 30) _) _
      simp only [Act.put, List.setIfInBounds_toArray, List.set_cons_succ, List.set_cons_zero]
      refine wpAnyU_all (rs := [12]) (by kernel_rfl) (by simp) ?_
      intro j hj
      obtain rfl := List.mem_singleton.1 hj
      clear hj
      refine wpOp_shut rfl (fun K' HK => ?_)
      go_simp
      refine HK.out _ _ ⟨.inr ?_, ?_⟩
      · exact ⟨far_cell (W := wr.drew) (b := b1) (o := j * 2) hab1 (.int .i64 (-1)) c1, far_cell (W := wr.drew) (b := b1) (o := j * 2) hab1 (.int .i64 (-1)) c2⟩
      clear HK K'
      have hS := And.intro (far_cell (W := wr.drew) (b := b1) (o := j * 2) hab1 (.int .i64 (-1)) c1) (far_cell (W := wr.drew) (b := b1) (o := j * 2) hab1 (.int .i64 (-1)) c2)
      refine wpAnyU_take (i := 13) (v := (.pointer (some ⟨b2, j, none⟩))) rfl (by kernel_rfl) (fun _ _ _ h => h) (leads_of [[14]] (by kernel_rfl)) (by kernel_rfl) (by kernel_rfl) (by kernel_rfl) (Or.inl ⟨by rfl, ?_⟩) hS ?_
      · intro w' hS'
        obtain ⟨s0, s1⟩ := hS'
        go_simp
      change wpAnyU _ _ _ _ _ _ _ _ (Act.put _ (some 31) _) _
      simp only [Act.put, List.setIfInBounds_toArray, List.set_cons_succ, List.set_cons_zero]
      refine wpAnyU_all (rs := [14]) (by kernel_rfl) (by simp) ?_
      intro j hj
      obtain rfl := List.mem_singleton.1 hj
      clear hj
      refine wpOp_shut rfl (fun K' HK => ?_)
      go_simp
      refine HK.out _ _ ⟨.inl (by decide), ?_⟩
      clear HK K'
      refine wpAnyU_done (by kernel_rfl) ?_ _
      go_wp2_with fail
      go_roundw
      case rel =>
        refine ⟨j + 1, by omega, by go_num, hid ?_, hid ?_⟩
        · have h1 := ((HI.out.below (Below.refl wr.heap.size wr).drew).setDepth (k := j) (mark_at hlt) (-1)).setSlot (k := j) (-1)
          simp only [Lk.spot, mark_set hlt, mark2_set hlt] at h1
          exact h1
        · exact (HB.out.drew.setCell (p := ⟨b1, j * 2, none⟩) HLE.out.1 _).setCell (p := ⟨b2, j, none⟩) HLE.out.2.1 _
      case measure => simp [RowKit.intOf]; omega
    · obtain rfl : j = l.length := by omega
      rw [mark_end, mark2_end] at HI
      have hlook := look_ok ⟨a, g, cap, b1, b2, okl, l⟩ m HR.out HI.out
      have HLK := hid hlook
      have e1 : ((l.length - 1 : Nat) : Int) = (l.length : Int) - 1 := by omega
      clear hlook
      rw [e1] at HLK
      go_wp2_with fail
      refine HLK.out.mono ?_
      rintro e w2 ⟨rfl, o2, v2, h2, k2, s2⟩
      have H2 := hid h2
      have HB2 := hid (below_kp HB.out (Nat.le_refl _) k2 (fun k hk => by
        rcases hk with q | q | q | q
        · rw [q]; exact HLE.out.2.2
        · rw [q]; exact HLE.out.1
        · rw [q]; exact HLE.out.2.1
        · exact q.elim))
      clear h2 k2 s2
      go_wp2_with fail
      go_ret
      exact ⟨a, b1, b2, _, _, rfl, H2.out, HB2.out, HLE.out.1, HLE.out.2.1⟩
end
end Go.Proofs.Yticbjhicjegfoaa.Q
namespace Go.Proofs.Yticbjhicjegfoaa.Q
open Go.RowKit
open Go.Proofs.YticbjhicjegfoaaW.PrintWords
/-- A scope in memory: names, and which are fixed. -/
def kOpn : Kd Opn := Kd.pair (Kd.slice 9 Kd.string) (Kd.slice 4 Kd.bool)
theorem kOpn_open {w : World} {o : Opn} {cs : List Value} (h : kOpn.K w o cs) : ∃ A1 c1 A2 c2, cs = [.slice A1 o.1.length c1, .slice A2 o.2.length c2] ∧ o.1.length ≤ c1 ∧ Kd.string.C w A1 o.1.length o.1 ∧ o.2.length ≤ c2 ∧ Kd.bool.C w A2 o.2.length o.2 := by
  obtain ⟨_, _, rfl, ⟨A1, c1, rfl, l1, h1⟩, A2, c2, rfl, l2, h2⟩ := h
  exact ⟨A1, c1, A2, c2, rfl, l1, h1, l2, h2⟩
/-- What stands around, by value: its row of scopes v, read in blocks of oks. -/
def AE (w : World) (oks : Nat → Prop) (v : Value) (a : Ar) : Prop := ∃ A c, v = .slice A a.scopes.length c ∧ a.scopes.length ≤ c ∧ Kd.F kOpn w oks A a.scopes.length a.scopes
def arV (a : Ar) (v : Value) : Value := .agg #[.bool a.loop, .bool a.fun_, .bool a.gen, v]
structure EG where
  a : Nat
  g : Nat
  cap : Nat
  b1 : Nat
  b2 : Nat
  okl : Nat → Prop
  l : List Nd
  spots : List Sp
  slots : List Int
def ckRow (G : EG) (bv : Value) : Array Value := #[.slice (some ⟨G.g, 0, none⟩) G.l.length G.cap, .slice (some ⟨G.b1, 0, none⟩) G.l.length G.l.length, .slice (some ⟨G.b2, 0, none⟩) G.l.length G.l.length, bv]
structure EI (G : EG) (w : World) (okb : Nat → Prop) (bv : Value) (bad : List Nat) : Prop where
  cell : w.heap[G.a]? = some (.cells (ckRow G bv) 79 (0, 0))
  nodes : NR w G.okl G.g G.cap G.l
  sp : w.heap[G.b1]? = some (.cells (spCells G.spots).toArray 40 (0, 0))
  sl : w.heap[G.b2]? = some (.cells (slCells G.slots).toArray 3 (0, 0))
  bad : Kd.N (Kd.int .i64) 3 w 0 okb bv (ints bad)
  lens : G.spots.length = G.l.length ∧ G.slots.length = G.l.length
  off : ∀ k, okb k → k ≠ G.a ∧ k ≠ G.b1 ∧ k ≠ G.b2 ∧ ¬ G.okl k ∧ k < w.heap.size
  offl : ∀ k, G.okl k → k ≠ G.a ∧ k < w.heap.size
  ne : G.a ≠ G.b1 ∧ G.a ≠ G.b2
def EK (G : EG) (okb : Nat → Prop) (k : Nat) : Prop := k = G.a ∨ okb k
/-- What a call of a checker's comes to. -/
def EN (G : EG) (w : World) (okb : Nat → Prop) (w' : World) (bad' : List Nat) : Prop := ∃ okb' bv', EI G w' okb' bv' bad' ∧ Kp (EK G okb) w w' ∧ ∀ k, okb' k → okb k ∨ w.heap.size ≤ k
section
variable {G : EG} {w w' w'' : World} {okb o1 oks : Nat → Prop} {bv v : Value} {bad bad' : List Nat} {a : Ar} {k : Nat}
theorem EI.lt (h : EI G w okb bv bad) : G.a < w.heap.size ∧ G.b1 < w.heap.size ∧ G.b2 < w.heap.size := ⟨(Array.getElem?_eq_some_iff.1 h.cell).1, (Array.getElem?_eq_some_iff.1 h.sp).1, (Array.getElem?_eq_some_iff.1 h.sl).1⟩
theorem EI.c (h : EI G w okb bv bad) {i : Nat} {u : Value} (hu : (ckRow G bv)[i]? = some u) : w.cell? ⟨G.a, i, none⟩ = some u := (cell_of_row _ _ _ _ _ _ h.cell).trans hu
theorem EI.c0 (h : EI G w okb bv bad) : w.cell? ⟨G.a, 0, none⟩ = some (.slice (some ⟨G.g, 0, none⟩) G.l.length G.cap) := h.c rfl
theorem EI.c1 (h : EI G w okb bv bad) : w.cell? ⟨G.a, 1, none⟩ = some (.slice (some ⟨G.b1, 0, none⟩) G.l.length G.l.length) := h.c rfl
theorem EI.c2 (h : EI G w okb bv bad) : w.cell? ⟨G.a, 2, none⟩ = some (.slice (some ⟨G.b2, 0, none⟩) G.l.length G.l.length) := h.c rfl
theorem EI.c3 (h : EI G w okb bv bad) : w.cell? ⟨G.a, 3, none⟩ = some bv := h.c rfl
theorem EI.f (h : EI G w okb bv bad) (i : Nat) : w.frozen? ⟨G.a, i, none⟩ = false := by simp [World.frozen?, h.cell]
theorem EI.below (h : EI G w okb bv bad) (hb : Below w.heap.size w w') : EI G w' okb bv bad :=
  ⟨(hb.block _ h.lt.1).trans h.cell, Kd.N_below h.nodes hb, (hb.block _ h.lt.2.1).trans h.sp, (hb.block _ h.lt.2.2).trans h.sl, Kd.N_below h.bad hb, h.lens,
    fun k hk => by obtain ⟨q1, q2, q3, q4, q5⟩ := h.off k hk; exact ⟨q1, q2, q3, q4, Nat.lt_of_lt_of_le q5 hb.size⟩, fun k hk => ⟨(h.offl k hk).1, Nat.lt_of_lt_of_le (h.offl k hk).2 hb.size⟩, h.ne⟩
theorem EI.same (h : EI G w okb bv bad) : EN G w okb w bad := ⟨okb, bv, h, Kp.refl _ _, fun _ h => .inl h⟩
theorem EN.of (k1 : Kp (EK G okb) w w') (s1 : ∀ k, o1 k → okb k ∨ w.heap.size ≤ k) (g : EN G w' o1 w'' bad') : EN G w okb w'' bad' := by
  obtain ⟨o2, v2, h2, k2, s2⟩ := g
  refine ⟨o2, v2, h2, k1.trans k2 (fun k hk => ?_), fun k hk => (s2 k hk).elim (s1 k) (fun h => .inr (Nat.le_trans k1.size h))⟩
  exact hk.elim (fun h => .inl (.inl h)) (fun h => (s1 k h).imp .inr id)
theorem EN.pre (hb : Below w.heap.size w w') (h : EN G w' okb w'' bad') : EN G w okb w'' bad' := EN.of ((Kp.of_below hb).mono (fun _ h => h)) (fun _ h => .inl h) h
/-- What a checker has not in hand stays. -/
theorem Kp.offE (h : Kp (EK G okb) w w') {ok : Nat → Prop} (ho : ∀ k, ok k → k ≠ G.a ∧ ¬ okb k ∧ k < w.heap.size) : ∀ k, ok k → w'.heap[k]? = w.heap[k]? := fun k hk => h.block k (ho k hk).2.2 (fun q => q.elim (ho k hk).1 (ho k hk).2.1)
theorem EI.offL (h : EI G w okb bv bad) : ∀ k, G.okl k → k ≠ G.a ∧ ¬ okb k ∧ k < w.heap.size := fun k hk => ⟨(h.offl k hk).1, fun q => (h.off k q).2.2.2.1 hk, (h.offl k hk).2⟩
theorem AE.step (h : AE w oks v a) (hs : ∀ k, oks k → w'.heap[k]? = w.heap[k]?) : AE w' oks v a := by
  obtain ⟨A, c, e, l, hF⟩ := h
  exact ⟨A, c, e, l, Kd.F_step hF (fun k hk _ => hs k hk)⟩
theorem AE.below (h : AE w oks v a) (hb : Below w.heap.size w w') : AE w' oks v a := by
  obtain ⟨A, c, e, l, hF⟩ := h
  exact ⟨A, c, e, l, Kd.F_below hF hb⟩
/-- A scope, read. -/
theorem AE.at_ {A : Option Addr} {n c : Nat} (h : AE w oks (.slice A n c) a) {i : Nat} {o : Opn} (hi : a.scopes[i]? = some o) : ∃ ad A1 c1 A2 c2, A = some ad ∧ w.cell? (ad.add (i * 2)) = some (.slice A1 o.1.length c1) ∧ w.cell? (ad.add (i * 2 + 1)) = some (.slice A2 o.2.length c2) ∧ Kd.bool.C w A2 o.2.length o.2 := by
  obtain ⟨A', c', e, _, hF⟩ := h
  injection e with e1 e2 e3
  subst e1
  have hlt := (List.getElem?_eq_some_iff.1 hi).1
  obtain ⟨ad, cs, rfl, _, hK, hcc, _⟩ := Kd.F_get hF o (i : Int) (by omega) (by omega)
  have hx : a.scopes.getD ((i : Int)).toNat o = o := by simp [List.getD_eq_getElem?_getD, hi]
  rw [hx] at hK
  obtain ⟨A1, c1, A2, c2, rfl, _, _, _, h2⟩ := kOpn_open (Kd.FK_now hK)
  have q1 := hcc 0 _ rfl
  have q2 := hcc 1 _ rfl
  rw [Int.toNat_natCast] at q1 q2
  exact ⟨ad, A1, c1, A2, c2, rfl, q1, q2, h2⟩
set_option maxHeartbeats 1600000 in
set_option maxRecDepth 100000 in
theorem wrong_c (h : EI G w okb bv bad) {is : Bool} {at_ : Nat} (hr : addB is at_ bad = some bad') : Calls Try.prog 54 #[ptr G.a, .bool is, .int .i64 at_] w fun e w' => e = .returned (.tuple #[]) ∧ EN G w okb w' bad' := by
  unfold addB at hr
  cases is with
  | false =>
    obtain rfl : bad = bad' := by simpa using hr
    have H := hid h
    clear h hr
    unfold ptr
    go_enter Try.func54, Try.ntmps54
    go_wp2_with fail
    exact bodyPost_end (results_none rfl _ _ _) rfl ⟨rfl, H.out.same⟩
  | true =>
    rw [if_pos rfl] at hr
    split at hr
    · rename_i hl
      obtain rfl := Option.some.inj hr
      have hl' : bad.length < 1048576 := hl
      obtain ⟨A, c, e⟩ := Kd.N_slice h.bad
      have c3 := h.c3
      have f3 := h.f 3
      have hlt := h.lt.1
      subst e
      have H := hid h
      have HNB := hid (Kd.N_mono (ok' := fun j => okb j ∨ w.heap.size ≤ j) h.bad (fun _ hk => .inl hk))
      clear h hr hl
      unfold ptr
      go_enter Try.func54, Try.ntmps54
      go_wp2_with (at_builtin; refine Kd.N_append (Kd.int .i64) (w0 := w) 0 rfl _ _ 36 3 (.int .i64 0) 8 rfl Try.underlying36 infoInt rfl (by decide) (by decide) (.slice A (ints bad).length c) (ints bad) (at_ : Int) [.int .i64 at_] (fun j => okb j ∨ w.heap.size ≤ j) (fun _ => False) ?c1 ?c2 (fun _ _ => rfl) (fun _ hk => hk.elim) (fun _ hk => .inr hk) HNB.out (Below.refl _ _) (Nat.zero_le _) (by rw [ints_length]; omega) ?_; (case c1 => rfl); (case c2 => rfl); intro v1 w1 hN1 _ hg1 _; obtain ⟨A2, c2, ev⟩ := Kd.N_slice hN1; subst ev; have HN1 := hid hN1; have HG1 := hid hg1; have hp1 : w1.heap[G.a]? = w.heap[G.a]? := hg1.block _ hlt (fun e => (H.out.off _ (H.out.bad.1 _ e.symm)).1 rfl); have m0 : w1.cell? ⟨G.a, 3, none⟩ = some (.slice A (ints bad).length c) := (World.cell?_of_block (w := w) (a := ⟨G.a, 3, none⟩) hp1).trans c3; have m1 : w1.frozen? ⟨G.a, 3, none⟩ = false := (World.frozen?_of_block (w := w) (a := ⟨G.a, 3, none⟩) hp1).trans f3; clear hN1 hg1 hp1)
      have hI := H.out
      have hka : ¬ okb G.a := fun e => (hI.off _ e).1 rfl
      have hkp : Kp (fun k => okb k) w w1 := Kp.grown HG1.out (fun k e => hI.bad.1 k e)
      have e0 : ints bad ++ [(at_ : Int)] = ints (bad ++ [at_]) := by simp [ints]
      have hN1 := HN1.out
      rw [e0] at hN1
      have hset : Kp (fun k => k = G.a) w1 (w1.setCell ⟨G.a, 3, none⟩ (.slice A2 (ints (bad ++ [at_])).length c2)) := Kp.set (K := fun k => k = G.a) (p := ⟨G.a, 3, none⟩) _ rfl
      have hk2 : Kp (EK G okb) w (w1.setCell ⟨G.a, 3, none⟩ (.slice A2 (ints (bad ++ [at_])).length c2)) := (hkp.mono (fun k h => .inr h)).trans hset (fun _ h => .inl (.inl h))
      have hin : ∀ k, ((okb k ∨ w.heap.size ≤ k) ∧ k < w1.heap.size) → k ≠ G.a ∧ k ≠ G.b1 ∧ k ≠ G.b2 ∧ ¬ G.okl k := fun k hk => by
        rcases hk.1 with q | q
        · obtain ⟨q1, q2, q3, q4, _⟩ := hI.off k q; exact ⟨q1, q2, q3, q4⟩
        · have := hI.lt
          exact ⟨by omega, by omega, by omega, fun e => by have := (hI.offl k e).2; omega⟩
      have hS : EI G (w1.setCell ⟨G.a, 3, none⟩ (.slice A2 (ints (bad ++ [at_])).length c2)) (fun k => (okb k ∨ w.heap.size ≤ k) ∧ k < w1.heap.size) (.slice A2 (ints (bad ++ [at_])).length c2) (bad ++ [at_]) :=
        ⟨blk_put (hkp.heap hI.cell hka) 3 _ rfl, Kd.N_kept hI.nodes hk2.kept (fun j hj q => q.elim (hI.offl j hj).1 (fun q => (hI.off j q).2.2.2.1 hj)), hk2.heap hI.sp (fun q => q.elim hI.ne.1.symm (fun e => (hI.off _ e).2.1 rfl)), hk2.heap hI.sl (fun q => q.elim hI.ne.2.symm (fun e => (hI.off _ e).2.2.1 rfl)),
          Kd.N_kept (Kd.N_bound hN1) hset.kept (fun j hj => (hin j hj).1), hI.lens, fun k hk => by obtain ⟨q1, q2, q3, q4⟩ := hin k hk; exact ⟨q1, q2, q3, q4, by simpa using hk.2⟩, fun k hk => ⟨(hI.offl k hk).1, Nat.lt_of_lt_of_le (hI.offl k hk).2 hk2.size⟩, hI.ne⟩
      have e : (ints (bad ++ [at_])).length = (ints bad).length + 1 := by simp [ints]
      rw [e] at hS hk2
      exact bodyPost_end (results_none rfl _ _ _) rfl ⟨rfl, _, _, hS, hk2, fun k hk => hk.1⟩
    · cases hr
end
end Go.Proofs.Yticbjhicjegfoaa.Q
namespace Go.Proofs.Yticbjhicjegfoaa.Q
open Go.RowKit
open Go.Proofs.YticbjhicjegfoaaW.PrintWords
theorem add_next (ad : Addr) (i : Nat) : ad.add (i + 1) = ⟨(ad.add i).block, (ad.add i).off + 1, none⟩ := by
  unfold Addr.add
  rw [if_neg (by omega)]
  split
  · rename_i h; rw [h]
  · simp [Nat.add_assoc]
section
variable {G : EG} {w : World} {okb oks : Nat → Prop} {bv v : Value} {bad : List Nat} {a : Ar} {k : Nat}
set_option maxHeartbeats 3200000 in
set_option maxRecDepth 100000 in
theorem fixed_c (h : EI G w okb bv bad) (ha : AE w oks v a) {q : Bool} (hr : fixedF G.spots a k = some q) :
    Calls Try.prog 75 #[ptr G.a, arV a v, .int .i64 k] w fun e w' => e = .returned (.bool q) ∧ Below w.heap.size w w' := by
  unfold fixedF at hr
  obtain ⟨s, hs, hr⟩ := Option.bind_eq_some_iff.1 hr
  have hk : k < G.l.length := by rw [← h.lens.1]; exact (List.getElem?_eq_some_iff.1 hs).1
  have hk' : (k : Int) < (G.l.length : Int) := by omega
  obtain ⟨A, c, rfl, hlc, _⟩ := id ha
  have c1 := h.c1
  have s0 := (cell_of_row _ _ (k * 2) _ _ _ h.sp).trans (c := some (Value.int .i64 s.depth)) (by simpa using (spCells_at hs).1)
  have s1 := (cell_of_row _ _ (k * 2 + 1) _ _ _ h.sp).trans (c := some (Value.int .i64 s.slot)) (by simpa using (spCells_at hs).2)
  have hlt := h.lt
  have hz1 := hlt.1
  have hz2 := hlt.2.1
  obtain ⟨W, hW⟩ : ∃ W, W = ((w.alloc (.cells #[.bool a.loop, .bool a.fun_, .bool a.gen, .slice A a.scopes.length c] 83)).alloc (.cells #[.int .i64 s.depth, .int .i64 s.slot] 40)) := ⟨_, rfl⟩
  have hb : Below w.heap.size w W := by rw [hW]; exact ((Below.refl _ _).alloc (Nat.le_refl _) _).alloc (by simp) _
  have r4 : W.heap[w.heap.size]? = some (.cells #[.bool a.loop, .bool a.fun_, .bool a.gen, .slice A a.scopes.length c] 83 (0, 0)) := by
    rw [hW, heap_alloc_old _ _ (by simp)]; exact heap_alloc_new _ _
  have r7 : W.heap[w.heap.size + 1]? = some (.cells #[.int .i64 s.depth, .int .i64 s.slot] 40 (0, 0)) := by
    rw [hW]
    have := heap_alloc_new (w.alloc (.cells #[.bool a.loop, .bool a.fun_, .bool a.gen, .slice A a.scopes.length c] 83)) (.cells #[.int .i64 s.depth, .int .i64 s.slot] 40)
    rwa [show (w.alloc (.cells #[.bool a.loop, .bool a.fun_, .bool a.gen, .slice A a.scopes.length c] 83)).heap.size = w.heap.size + 1 by simp] at this
  have d3 := (cell_of_row _ _ 3 _ _ _ r4).trans (b := some (Value.slice A a.scopes.length c)) rfl
  have d0 := (cell_of_row _ _ 0 _ _ _ r7).trans (b := some (Value.int .i64 s.depth)) rfl
  have d1 := (cell_of_row _ _ 1 _ _ _ r7).trans (b := some (Value.int .i64 s.slot)) rfl
  have HA := hid (ha.below hb)
  have HB := hid hb
  have HW := hid hW
  have H := hid h
  have hsW : w.heap.size + 1 < W.heap.size := (Array.getElem?_eq_some_iff.1 r7).1
  clear h ha hs hb hW r4 r7 hlt
  have hcw : ∀ {c' : Code} {Q : Exit → Act → World → Prop} {a' : Act}, Code.wp Try.prog c' Q a' W → Code.wp Try.prog c' Q a' ((w.alloc (.cells #[.bool a.loop, .bool a.fun_, .bool a.gen, .slice A a.scopes.length c] 83)).alloc (.cells #[.int .i64 s.depth, .int .i64 s.slot] 40)) := fun {c' Q a'} h => by
    rw [← HW.out]; exact h
  have HCW := hid @hcw
  clear hcw
  unfold ptr arV
  go_enter Try.func75, Try.ntmps75
  go_upto_region 2 with fail
  refine HCW.out ?_
  clear HCW HW c1 s0 s1
  split at hr
  · rename_i hd
    obtain rfl := Option.some.inj hr
    have hd' : decide (s.depth < 0) = true := decide_eq_true hd
    go_wp2_with fail
    go_ret
    exact ⟨rfl, HB.out⟩
  · rename_i hd
    have hd' : ¬ s.depth < 0 := hd
    split at hr
    · rename_i hbnd
      obtain ⟨d, hdn⟩ : ∃ d : Nat, s.depth = (d : Int) := ⟨s.depth.toNat, by omega⟩
      rw [hdn] at hr hbnd hd d0 hd'
      split at hr
      · rename_i hdl
        obtain ⟨m, hm⟩ : ∃ m, m + 1 + d = a.scopes.length := ⟨a.scopes.length - 1 - d, by omega⟩
        rw [Int.toNat_natCast, show a.scopes.length - 1 - d = m by omega] at hr
        obtain ⟨o, ho, hr⟩ := Option.bind_eq_some_iff.1 hr
        split at hr
        · rename_i hsl
          have hq := Option.some.inj hr
          obtain ⟨ad, A1, c1', A2, c2', rfl, _, q2, hC⟩ := HA.out.at_ ho
          have e1 : IntKind.i64.wrap (((a.scopes.length : Nat) : Int) - 1) = (m : Int) + (d : Int) := by rw [wrapI ⟨by omega, by omega⟩]; omega
          have e2 : IntKind.i64.wrap (m : Int) = (m : Int) := wrapI ⟨by omega, by omega⟩
          have e3 : decide ((d : Int) < 0) = false := decide_eq_false (by omega)
          have e4 : (0 : Int) ≤ (m : Int) := by omega
          have e5 : decide ((0 : Int) ≤ (m : Int)) = true := decide_eq_true e4
          have e6 : (m : Int) < (a.scopes.length : Int) := by omega
          obtain ⟨t, ht⟩ : ∃ t : Nat, s.slot = (t : Int) := ⟨s.slot.toNat, by omega⟩
          rw [ht, Int.toNat_natCast] at hq
          rw [ht] at d1
          have hqa : ad.block < W.heap.size := cell_lt q2 |> fun h => by rwa [show (ad.add (m * 2 + 1)).block = ad.block by unfold Addr.add; split <;> rfl] at h
          rw [add_next] at q2
          have HC := hid hC
          clear hC hr ho hdl hbnd hd hd' hm
          rcases Nat.lt_or_ge t o.2.length with htl | htl
          · obtain ⟨ad2, rfl, q3⟩ := Kd.at_bool HC.out (t : Int) (by omega) (by omega)
            have hx : rdOf false o.2 (t : Int) = o.2[t] := by unfold rdOf; simp [htl]
            rw [hx, Int.toNat_natCast] at q3
            have hg : q = o.2[t] := by rw [← hq, List.getElem?_eq_getElem htl]; rfl
            generalize o.2[t] = bb at q3 hg
            have HG := hid hg
            have e7 : (t : Int) < (o.2.length : Int) := by omega
            have e8 : decide ((t : Int) < (o.2.length : Int)) = true := decide_eq_true e7
            have e9 : (0 : Int) ≤ (t : Int) := by omega
            clear hx hg hq
            go_wp2_with fail
            go_quiet (fail)
            go_wp2_with fail
            go_ret
            exact ⟨ret_bool HG.out, pw_below_drewN HB.out _⟩
          · have hg : q = false := by rw [← hq, List.getElem?_eq_none htl]; rfl
            have HG := hid hg
            have e8 : decide ((t : Int) < (o.2.length : Int)) = false := decide_eq_false (by omega)
            have e8' : decide (t < o.2.length) = false := decide_eq_false (by omega)
            clear hg hq
            go_wp2_with fail
            go_quiet (fail)
            go_wp2_with fail
            go_ret
            exact ⟨ret_bool HG.out, pw_below_drewN HB.out _⟩
        · cases hr
      · rename_i hdl
        obtain rfl := Option.some.inj hr
        have e1 : IntKind.i64.wrap (((a.scopes.length : Nat) : Int) - 1) = (a.scopes.length : Int) - 1 := wrapI ⟨by omega, by omega⟩
        have e2 : IntKind.i64.wrap ((a.scopes.length : Int) - 1 - (d : Int)) = (a.scopes.length : Int) - 1 - (d : Int) := wrapI ⟨by omega, by omega⟩
        have e3 : decide ((d : Int) < 0) = false := decide_eq_false (by omega)
        have e5 : decide ((d : Int) ≤ (a.scopes.length : Int) - 1) = false := decide_eq_false (by omega)
        clear hr hdl hbnd hd hd'
        go_wp2_with fail
        go_quiet (fail)
        go_wp2_with fail
        go_ret
        exact ⟨rfl, pw_below_drewN HB.out _⟩
    · cases hr
end
end Go.Proofs.Yticbjhicjegfoaa.Q
