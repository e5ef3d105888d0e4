/- What a proof further on needs (part j). -/
import Derived.Deep.OwnRows
import Derived.Test.YtibepkblgliooaaKf
import Derived.Test.YtibepkblgliooaaKi
set_option linter.unusedVariables false
namespace Go.Proofs.Ytibepkblgliooaa.Q
open Go.RowKit
open Go.Proofs.YtibepkblgliooaaW.PrintWords
theorem look_ok (G : LG) (m : Nat) : LookOk G m := by
  induction m with
  | zero =>
    unfold LookOk
    intro k S S' hr
    unfold lookF at hr
    cases hr
  | succ m ih =>
    unfold LookOk
    intro k S S' hr w oko opv h
    unfold lookF at hr
    obtain ⟨n, hk, hr⟩ := Option.bind_eq_some_iff.1 hr
    obtain ⟨d, hd, hr⟩ := Option.bind_eq_some_iff.1 hr
    split at hr
    · rename_i hks
      have hd' := hd
      unfold declF at hd'
      rw [hk, Option.bind_some] at hd'
      unfold bodyF at hr
      cases d with
      | some s =>
        have hkd : n.kind = 21 ∨ n.kind = 22 ∨ n.kind = 23 := by
          split at hd'
          · omega
          · split at hd'
            · omega
            · cases hd'
        rw [if_neg (by omega), if_neg (by omega), if_neg (by omega), if_neg (by omega), if_neg (by omega)] at hr
        exact look_decl ih h hk hd hks (hid hkd) rfl hr
      | none =>
        split at hr
        · rename_i h3
          exact look_name ih h hk hd hks (hid h3) rfl hr
        split at hr
        · rename_i h3
          exact look_fun ih h hk hd (hid h3) rfl hr
        split at hr
        · rename_i h3
          exact look_all ih h hk hd (hid h3) rfl hr
        split at hr
        · rename_i h3
          obtain ⟨ns, hns, hr⟩ := Option.bind_eq_some_iff.1 hr
          split at hr
          · rename_i hl
            exact look_scope ih h hk hd (hid h3) rfl (hid hns) hl hr
          · rename_i hl
            exact look_block ih h hk hd (hid h3) rfl (hid hns) hl hr
        split at hr
        · rename_i h3
          obtain ⟨k0, q0, hr⟩ := Option.bind_eq_some_iff.1 hr
          obtain ⟨k1, q1, hr⟩ := Option.bind_eq_some_iff.1 hr
          obtain ⟨S2, q2, hr⟩ := Option.bind_eq_some_iff.1 hr
          obtain ⟨n1, q3, hr⟩ := Option.bind_eq_some_iff.1 hr
          exact look_try ih h hk hd (hid h3) rfl (hid q0) (hid q1) (hid q3) (hid q2) hr
        · rename_i p3 p10 p33 p25 p32
          exact look_other ih h hk hd (hid ⟨p3, p10, p33, p25, p32⟩) rfl hr
    · cases hr
theorem infoSpot : (Try.prog.info? 85).map (fun i => (i.zero, i.size, i.bytes)) = some (some (.agg #[.int .i64 0, .int .i64 0]), 2, 16) := by kernel_rfl
theorem make_spots {n : Nat} (hn : n ≤ 1048576) (w : World) : (Instr.makeSlice 64 (.int .i64 (n : Int)) (.int .i64 (n : Int))).run Try.prog w = .ok (.slice (some ⟨w.heap.size, 0, none⟩) n n) (w.alloc (.cells (spCells (List.replicate n ⟨0, 0⟩)).toArray 85)) := by
  obtain ⟨i, hi, hz0, hz1, hz2⟩ := info_parts infoSpot
  have h := run_make (P := Try.prog) (w := w) 64 85 i _ Try.underlying64 hi hz0 .i64 .i64 (n : Int) (n : Int) (by omega) (Int.le_refl _) (by rw [hz2]; omega) (by omega)
  rw [h, hz1, Int.toNat_natCast]
  have e : madeCells (Value.agg #[.int .i64 0, .int .i64 0]).cells (n * 2) = (spCells (List.replicate n ⟨0, 0⟩)).toArray := by
    have key : ∀ n : Nat, (spCells (List.replicate n ⟨0, 0⟩)) = List.replicate (n * 2) (Value.int .i64 0) := by
      intro n
      induction n with
      | zero => rfl
      | succ n ih =>
        rw [List.replicate_succ, show (n + 1) * 2 = n * 2 + 1 + 1 by omega, List.replicate_succ, List.replicate_succ, ← ih]
        rfl
    rw [key]
    have hc : (Value.agg #[.int .i64 0, .int .i64 0]).cells = #[.int .i64 0, .int .i64 0] := rfl
    rw [hc]
    apply Array.toList_inj.1
    apply List.ext_getElem?
    intro j
    unfold madeCells
    by_cases h : j < n * 2
    · have h2 : j % 2 = 0 ∨ j % 2 = 1 := by omega
      rcases h2 with h2 | h2 <;> simp [h, h2]
    · simp [h]
  rw [e]
theorem make_slots {n : Nat} (hn : n ≤ 1048576) (w : World) : (Instr.makeSlice 35 (.int .i64 (n : Int)) (.int .i64 (n : Int))).run Try.prog w = .ok (.slice (some ⟨w.heap.size, 0, none⟩) n n) (w.alloc (.cells (slCells (List.replicate n 0)).toArray 3)) := by
  rw [run_make_row' 35 3 (.int .i64 0) 8 Try.underlying35 infoInt rfl .i64 .i64 n (by omega) (by omega) w]
  have e : madeCells #[.int .i64 0] n = (slCells (List.replicate n 0)).toArray := by
    apply Array.toList_inj.1
    rw [toList_madeCells_one]
    simp [slCells]
  rw [e]
end Go.Proofs.Ytibepkblgliooaa.Q
namespace Go.Proofs.Ytibepkblgliooaa.Q
open Go.RowKit
open Go.Proofs.YtibepkblgliooaaW.PrintWords
def mark (n j : Nat) : List Sp := (List.range n).map fun i => if i < j then ⟨-1, 0⟩ else ⟨0, 0⟩
def mark2 (n j : Nat) : List Int := (List.range n).map fun i => if i < j then -1 else 0
theorem mark_set {n j : Nat} (h : j < n) : (mark n j).set j ⟨-1, 0⟩ = mark n (j + 1) := by
  apply List.ext_getElem?
  intro i
  unfold mark
  rw [List.getElem?_set]
  by_cases hij : j = i
  · subst hij
    simp [h]
  · rw [if_neg hij]
    simp only [List.getElem?_map]
    cases hi : (List.range n)[i]? with
    | none => rfl
    | some x =>
      obtain ⟨h1, h2⟩ := List.getElem?_eq_some_iff.1 hi
      simp only [List.getElem_range] at h2
      subst h2
      simp only [Option.map_some]
      by_cases h3 : i < j
      · rw [if_pos h3, if_pos (by omega)]
      · rw [if_neg h3, if_neg (by omega)]
theorem mark2_set {n j : Nat} (h : j < n) : (mark2 n j).set j (-1) = mark2 n (j + 1) := by
  apply List.ext_getElem?
  intro i
  unfold mark2
  rw [List.getElem?_set]
  by_cases hij : j = i
  · subst hij
    simp [h]
  · rw [if_neg hij]
    simp only [List.getElem?_map]
    cases hi : (List.range n)[i]? with
    | none => rfl
    | some x =>
      obtain ⟨h1, h2⟩ := List.getElem?_eq_some_iff.1 hi
      simp only [List.getElem_range] at h2
      subst h2
      simp only [Option.map_some]
      by_cases h3 : i < j
      · rw [if_pos h3, if_pos (by omega)]
      · rw [if_neg h3, if_neg (by omega)]
theorem mark_at {n j : Nat} (h : j < n) : (mark n j)[j]? = some ⟨0, 0⟩ := by simp [mark, h]
theorem mark_end (l : List Nd) : mark l.length l.length = l.map fun _ => ⟨-1, 0⟩ := by
  apply List.ext_getElem?
  intro i
  unfold mark
  by_cases h : i < l.length <;> simp [h]
theorem mark2_end (l : List Nd) : mark2 l.length l.length = l.map fun _ => -1 := by
  apply List.ext_getElem?
  intro i
  unfold mark2
  by_cases h : i < l.length <;> simp [h]
theorem mark_zero (n : Nat) : mark n 0 = List.replicate n ⟨0, 0⟩ := by
  apply List.ext_getElem?
  intro i
  unfold mark
  by_cases h : i < n <;> simp [h]
theorem mark2_zero (n : Nat) : mark2 n 0 = List.replicate n 0 := by
  apply List.ext_getElem?
  intro i
  unfold mark2
  by_cases h : i < n <;> simp [h]
theorem below_kp {w w1 w2 : World} {n : Nat} {K : Nat → Prop} (hb : Below n w w1) (hn : n ≤ w.heap.size) (hk : Kp K w1 w2) (h : ∀ k, K k → n ≤ k) : Below n w w2 :=
  ⟨hk.os.trans hb.os, hk.tape.trans hb.tape, hk.output.trans hb.output, Nat.le_trans hb.size hk.size, fun k hlt => (hk.block k (by have := hb.size; omega) (fun q => by have := h k q; omega)).trans (hb.block k hlt)⟩
theorem far_cell {W : World} {a b i o : Nat} {v : Value} (hne : a ≠ b) (u : Value) (h : W.cell? ⟨a, i, none⟩ = some v) : (W.setCell ⟨b, o, none⟩ u).cell? ⟨a, i, none⟩ = some v :=
  (World.cell?_of_block (w := W) (a := ⟨a, i, none⟩) (Below.heap_setCell W ⟨b, o, none⟩ u a hne)).trans h
/-- The depth of a spot is set. -/
theorem LI.setDepth {G : LG} {w : World} {oko : Nat → Prop} {opv : Value} {S : Lk} (h : LI G w oko opv S) {k : Nat} {p : Sp} (hk : S.spots[k]? = some p) (x : Int) : LI G (w.setCell ⟨G.b1, k * 2, none⟩ (.int .i64 x)) oko opv (S.spot k ⟨x, p.slot⟩) := by
  have hk' : Kp (fun j => j = G.b1) w (w.setCell ⟨G.b1, k * 2, none⟩ (.int .i64 x)) := Kp.set (K := fun j => j = G.b1) (p := ⟨G.b1, k * 2, none⟩) _ rfl
  refine ⟨hk'.heap h.cell h.ne.1, Kd.N_kept h.nodes hk'.kept (fun j hj => (h.offl j hj).2.1), ?_, hk'.heap h.sl h.ne.2.2.symm, Kd.N_kept h.opn hk'.kept (fun j hj => (h.offo j hj).2.1), ⟨by simpa [Lk.spot] using h.lens.1, h.lens.2⟩, h.nopen, h.offl, h.offo, h.ne, fun j hj => Nat.lt_of_lt_of_le (h.lo j hj) hk'.size, fun j hj => Nat.lt_of_lt_of_le (h.lol j hj) hk'.size⟩
  refine blk_put h.sp (k * 2) (.int .i64 x) ?_
  have h2 := (spCells_at hk).2
  obtain ⟨h3, h4⟩ := List.getElem?_eq_some_iff.1 h2
  unfold Lk.spot
  simp only [spCells_set, List.setIfInBounds_toArray]
  congr 1
  symm
  apply List.ext_getElem?
  intro i
  rw [List.getElem?_set]
  by_cases hi : k * 2 + 1 = i
  · subst hi
    rw [if_pos rfl, List.getElem?_set_ne (by omega), h2]
    simp [h3]
  · rw [if_neg hi]
section
variable {w : World} {okl : Nat → Prop} {g cap : Nat} {l : List Nd}
set_option maxHeartbeats 3200000 in
set_option maxRecDepth 100000 in
theorem looked_c (h : NR w okl g cap l) (hlo : ∀ k, okl k → k < w.heap.size) (hl : l.length ≤ 1048576) (hl0 : 0 < l.length) {m : Nat} {S : Lk} (hr : looked m l = some S) :
    Calls Try.prog 44 #[.slice (some ⟨g, 0, none⟩) l.length cap] w fun e w' => ∃ a b1 b2 opv oko, e = .returned (.pointer (some ⟨a, 0, none⟩)) ∧ LI ⟨a, g, cap, b1, b2, okl, l⟩ w' oko opv S ∧ Below w.heap.size w w' ∧ w.heap.size ≤ b1 ∧ w.heap.size ≤ b2 := by
  unfold looked at hr
  rw [if_neg (by omega)] at hr
  have hm1 := make_spots hl
  have hm2 := make_slots hl
  have H := hid h
  have HLO := hid hlo
  have HR := hid hr
  have hl0' : (0 : Int) < (l.length : Int) := by omega
  clear h hlo hr
  have new : ∀ (W : World) (b1 b2 a : Nat), Below w.heap.size w W → w.heap.size ≤ b1 → w.heap.size ≤ b2 → w.heap.size ≤ a → b1 ≠ b2 → a ≠ b1 → a ≠ b2 → W.heap[b1]? = some (.cells (spCells (List.replicate l.length ⟨0, 0⟩)).toArray 85 (0, 0)) → W.heap[b2]? = some (.cells (slCells (List.replicate l.length 0)).toArray 3 (0, 0)) →
      W.heap[a]? = some (.cells #[.slice (some ⟨g, 0, none⟩) l.length cap, .slice (some ⟨b1, 0, none⟩) l.length l.length, .slice (some ⟨b2, 0, none⟩) l.length l.length, .slice none 0 0] 98 (0, 0)) → LI ⟨a, g, cap, b1, b2, okl, l⟩ W (fun _ => False) (.slice none 0 0) ⟨mark l.length 0, mark2 l.length 0, []⟩ := fun W b1 b2 a hB h1 h2 h3 h12 ha1 ha2 q1 q2 q3 =>
    ⟨q3, Kd.N_below H.out hB, by rw [mark_zero]; exact q1, by rw [mark2_zero]; exact q2, Kd.N_nil _ _ _ _ _, ⟨by simp [mark], by simp [mark2]⟩, ⟨Nat.zero_le _, fun x hx => by simp at hx⟩, fun k hk => by have := HLO.out k hk; exact ⟨by show k ≠ a; omega, by show k ≠ b1; omega, by show k ≠ b2; omega, fun h => h⟩, fun k hk => hk.elim, ⟨ha1, ha2, h12⟩, fun k hk => hk.elim, fun k hk => Nat.lt_of_lt_of_le (HLO.out k hk) hB.size⟩
  have NEW := hid new
  clear new
  go_enter Try.func44, Try.ntmps44
  go_upto_region 1 with fail
  go_cut [3] (fun x wx => ∃ a b1 b2, x = .pointer (some ⟨a, 0, none⟩) ∧ Box (LI ⟨a, g, cap, b1, b2, okl, l⟩ wx (fun _ => False) (.slice none 0 0) ⟨mark l.length 0, mark2 l.length 0, []⟩) ∧ Box (Below w.heap.size w wx) ∧ Box (w.heap.size ≤ b1 ∧ w.heap.size ≤ b2 ∧ w.heap.size ≤ a))
  case first =>
    go_region
    · go_wp2_with fail
      go_meet
      have hB : Below w.heap.size w ((((w.alloc (.cells (spCells (List.replicate l.length ⟨0, 0⟩)).toArray 85)).alloc (.cells (slCells (List.replicate l.length 0)).toArray 3)).alloc (.cells #[.slice (some ⟨g, 0, none⟩) l.length cap, .slice (some ⟨w.heap.size, 0, none⟩) l.length l.length, .slice (some ⟨w.heap.size + 1, 0, none⟩) l.length l.length, .slice none 0 0] 98)).drew) := ((((Below.refl _ _).alloc (Nat.le_refl _) _).alloc (by simp) _).alloc (by simp; omega) _).drew
      refine ⟨w.heap.size + 1 + 1, w.heap.size, w.heap.size + 1, rfl, hid (NEW.out _ _ _ _ hB (Nat.le_refl _) (by omega) (by omega) (by omega) (by omega) (by omega) ?_ ?_ ?_), hid hB, hid ⟨Nat.le_refl _, by omega, by omega⟩⟩
      · exact (heap_alloc_old _ _ (by simp; omega)).trans ((heap_alloc_old _ _ (by simp)).trans (heap_alloc_new _ _))
      · refine (heap_alloc_old _ _ (by simp)).trans ?_
        have := heap_alloc_new (w.alloc (.cells (spCells (List.replicate l.length ⟨0, 0⟩)).toArray 85)) (.cells (slCells (List.replicate l.length 0)).toArray 3)
        simpa using this
      · have := heap_alloc_new ((w.alloc (.cells (spCells (List.replicate l.length ⟨0, 0⟩)).toArray 85)).alloc (.cells (slCells (List.replicate l.length 0)).toArray 3)) (.cells #[.slice (some ⟨g, 0, none⟩) l.length cap, .slice (some ⟨w.heap.size, 0, none⟩) l.length l.length, .slice (some ⟨w.heap.size + 1, 0, none⟩) l.length l.length, .slice none 0 0] 98)
        have hz : ((w.alloc (.cells (spCells (List.replicate l.length ⟨0, 0⟩)).toArray 85)).alloc (.cells (slCells (List.replicate l.length 0)).toArray 3)).heap.size = w.heap.size + 1 + 1 := by simp
        rw [hz] at this
        exact this
    · go_wp2_with fail
      go_meet
      have hB : Below w.heap.size w ((((w.alloc (.cells (slCells (List.replicate l.length 0)).toArray 3)).alloc (.cells (spCells (List.replicate l.length ⟨0, 0⟩)).toArray 85)).alloc (.cells #[.slice (some ⟨g, 0, none⟩) l.length cap, .slice (some ⟨w.heap.size + 1, 0, none⟩) l.length l.length, .slice (some ⟨w.heap.size, 0, none⟩) l.length l.length, .slice none 0 0] 98)).drew) := ((((Below.refl _ _).alloc (Nat.le_refl _) _).alloc (by simp) _).alloc (by simp; omega) _).drew
      refine ⟨w.heap.size + 1 + 1, w.heap.size + 1, w.heap.size, rfl, hid (NEW.out _ _ _ _ hB (by omega) (Nat.le_refl _) (by omega) (by omega) (by omega) (by omega) ?_ ?_ ?_), hid hB, hid ⟨by omega, Nat.le_refl _, by omega⟩⟩
      · refine (heap_alloc_old _ _ (by simp)).trans ?_
        have := heap_alloc_new (w.alloc (.cells (slCells (List.replicate l.length 0)).toArray 3)) (.cells (spCells (List.replicate l.length ⟨0, 0⟩)).toArray 85)
        simpa using this
      · exact (heap_alloc_old _ _ (by simp; omega)).trans ((heap_alloc_old _ _ (by simp)).trans (heap_alloc_new _ _))
      · have := heap_alloc_new ((w.alloc (.cells (slCells (List.replicate l.length 0)).toArray 3)).alloc (.cells (spCells (List.replicate l.length ⟨0, 0⟩)).toArray 85)) (.cells #[.slice (some ⟨g, 0, none⟩) l.length cap, .slice (some ⟨w.heap.size + 1, 0, none⟩) l.length l.length, .slice (some ⟨w.heap.size, 0, none⟩) l.length l.length, .slice none 0 0] 98)
        have hz : ((w.alloc (.cells (slCells (List.replicate l.length 0)).toArray 3)).alloc (.cells (spCells (List.replicate l.length ⟨0, 0⟩)).toArray 85)).heap.size = w.heap.size + 1 + 1 := by simp
        rw [hz] at this
        exact this
  case rest =>
  obtain ⟨a, b1, b2, rfl, HI, HB, HLE⟩ := hcut
  clear hm1 hm2
  go_wp2_with fail
  go_loopw [16] (fun x wx => ∃ j : Nat, j ≤ l.length ∧ x = .int .i64 j ∧ Box (LI ⟨a, g, cap, b1, b2, okl, l⟩ wx (fun _ => False) (.slice none 0 0) ⟨mark l.length j, mark2 l.length j, []⟩) ∧ Box (Below w.heap.size w wx)) (fun x _ => l.length - (RowKit.intOf x).toNat)
  case atStart => exact ⟨0, Nat.zero_le _, rfl, HI, HB⟩
  case round =>
    clear HI HB
    obtain ⟨j, hj, rfl, HI, HB⟩ := hrel
    rcases Nat.lt_or_ge j l.length with hlt | hge
    · have hlt' : (j : Int) < (l.length : Int) := by omega
      have c1 : wr.cell? ⟨a, 1, none⟩ = some (.slice (some ⟨b1, 0, none⟩) l.length l.length) := HI.out.c1
      have c2 : wr.cell? ⟨a, 2, none⟩ = some (.slice (some ⟨b2, 0, none⟩) l.length l.length) := HI.out.c2
      have d1 : wr.cell? ⟨b1, j * 2, none⟩ = some (.int .i64 0) := (cell_of_row _ _ _ _ _ _ HI.out.sp).trans (by simpa using (spCells_at (mark_at hlt)).1)
      have d2 : wr.cell? ⟨b2, j, none⟩ = some (.int .i64 0) := (cell_of_row _ _ _ _ _ _ HI.out.sl).trans (by simp [slCells, mark2, hlt])
      have f1 : wr.frozen? ⟨b1, j * 2, none⟩ = false := HI.out.f1 _
      have f2 : wr.frozen? ⟨b2, j, none⟩ = false := HI.out.f2 _
      have hab1 : a ≠ b1 := HI.out.ne.1
      have hab2 : a ≠ b2 := HI.out.ne.2.1
      have hb12 : ¬ b2 = b1 := fun e => HI.out.ne.2.2 e.symm
      have hb12' : ¬ b1 = b2 := HI.out.ne.2.2
      have HS := hid (show ((((HI.out.below (Below.refl wr.heap.size wr).drew).setDepth (k := j) (mark_at hlt) (-1)).setSlot (k := j) (-1))) = _ from rfl)
      go_upto_region 5 with fail
      refine wp_region_until [14] (S := (fun w' => w'.cell? ⟨a, 1, none⟩ = some (.slice (some ⟨b1, 0, none⟩) l.length l.length) ∧ w'.cell? ⟨a, 2, none⟩ = some (.slice (some ⟨b2, 0, none⟩) l.length l.length))) (by kernel_rfl) ?_ ?_
      · go_keep
      intro hS
      refine wpAnyU_take (i := 0) (v := (.pointer (some ⟨a, 0, none⟩))) rfl (by kernel_rfl) (fun _ _ _ h => h) (leads_of [[14]] (by kernel_rfl)) (by kernel_rfl) (by kernel_rfl) (by kernel_rfl) (Or.inl ⟨by rfl, ?_⟩) hS ?_
      · intro w' hS'
        obtain ⟨s0, s1⟩ := hS'
        go_simp
      change wpAnyU _ _ _ _ _ _ _ _ (Act.put _ (some 19) _) _
      simp only [Act.put, List.setIfInBounds_toArray, List.set_cons_succ, List.set_cons_zero]
      refine wpAnyU_take (i := 1) (v := (.pointer (some ⟨a, 0, none⟩))) rfl (by kernel_rfl) (fun _ _ _ h => h) (leads_of [[14]] (by kernel_rfl)) (by kernel_rfl) (by kernel_rfl) (by kernel_rfl) (Or.inl ⟨by rfl, ?_⟩) hS ?_
      · intro w' hS'
        obtain ⟨s0, s1⟩ := hS'
        go_simp
      change wpAnyU _ _ _ _ _ _ _ _ (Act.put _ (some 20) _) _
      simp only [Act.put, List.setIfInBounds_toArray, List.set_cons_succ, List.set_cons_zero]
      refine wpAnyU_take (i := 2) (v := (.pointer (some ⟨a, 1, none⟩))) rfl (by kernel_rfl) (fun _ _ _ h => h) (leads_of [[14]] (by kernel_rfl)) (by kernel_rfl) (by kernel_rfl) (by kernel_rfl) (Or.inl ⟨by rfl, ?_⟩) hS ?_
      · intro w' hS'
        obtain ⟨s0, s1⟩ := hS'
        go_simp
      change wpAnyU _ _ _ _ _ _ _ _ (Act.put _ (some 21) _) _
      simp only [Act.put, List.setIfInBounds_toArray, List.set_cons_succ, List.set_cons_zero]
      refine wpAnyU_take (i := 3) (v := (.slice (some ⟨b1, 0, none⟩) l.length l.length)) rfl (by kernel_rfl) (fun _ _ _ h => h) (leads_of [[14]] (by kernel_rfl)) (by kernel_rfl) (by kernel_rfl) (by kernel_rfl) (Or.inl ⟨by rfl, ?_⟩) hS ?_
      · intro w' hS'
        obtain ⟨s0, s1⟩ := hS'
        go_simp
      change wpAnyU _ _ _ _ _ _ _ _ (Act.put _ (some 22) _) _
      simp only [Act.put, List.setIfInBounds_toArray, List.set_cons_succ, List.set_cons_zero]
      refine wpAnyU_take (i := 4) (v := (.int .i64 (j : Nat))) rfl (by kernel_rfl) (fun _ _ _ h => h) (leads_of [[14]] (by kernel_rfl)) (by kernel_rfl) (by kernel_rfl) (by kernel_rfl) (Or.inl ⟨by rfl, ?_⟩) hS ?_
      · intro w' hS'
        obtain ⟨s0, s1⟩ := hS'
        go_simp
      change wpAnyU _ _ _ _ _ _ _ _ (Act.put _ (some 23) _) _
      simp only [Act.put, List.setIfInBounds_toArray, List.set_cons_succ, List.set_cons_zero]
      refine wpAnyU_take (i := 5) (v := (.pointer (some ⟨a, 0, none⟩))) rfl (by kernel_rfl) (fun _ _ _ h => h) (leads_of [[14]] (by kernel_rfl)) (by kernel_rfl) (by kernel_rfl) (by kernel_rfl) (Or.inl ⟨by rfl, ?_⟩) hS ?_
      · intro w' hS'
        obtain ⟨s0, s1⟩ := hS'
        go_simp
      change wpAnyU _ _ _ _ _ _ _ _ (Act.put _ (some 24) _) _
      simp only [Act.put, List.setIfInBounds_toArray, List.set_cons_succ, List.set_cons_zero]
      refine wpAnyU_take (i := 6) (v := (.pointer (some ⟨a, 0, none⟩))) rfl (by kernel_rfl) (fun _ _ _ h => h) (leads_of [[14]] (by kernel_rfl)) (by kernel_rfl) (by kernel_rfl) (by kernel_rfl) (Or.inl ⟨by rfl, ?_⟩) hS ?_
      · intro w' hS'
        obtain ⟨s0, s1⟩ := hS'
        go_simp
      change wpAnyU _ _ _ _ _ _ _ _ (Act.put _ (some 25) _) _
      simp only [Act.put, List.setIfInBounds_toArray, List.set_cons_succ, List.set_cons_zero]
      refine wpAnyU_take (i := 7) (v := (.pointer (some ⟨a, 2, none⟩))) rfl (by kernel_rfl) (fun _ _ _ h => h) (leads_of [[14]] (by kernel_rfl)) (by kernel_rfl) (by kernel_rfl) (by kernel_rfl) (Or.inl ⟨by rfl, ?_⟩) hS ?_
      · intro w' hS'
        obtain ⟨s0, s1⟩ := hS'
        go_simp
      change wpAnyU _ _ _ _ _ _ _ _ (Act.put _ (some 26) _) _
      simp only [Act.put, List.setIfInBounds_toArray, List.set_cons_succ, List.set_cons_zero]
      refine wpAnyU_take (i := 8) (v := (.slice (some ⟨b2, 0, none⟩) l.length l.length)) rfl (by kernel_rfl) (fun _ _ _ h => h) (leads_of [[14]] (by kernel_rfl)) (by kernel_rfl) (by kernel_rfl) (by kernel_rfl) (Or.inl ⟨by rfl, ?_⟩) hS ?_
      · intro w' hS'
        obtain ⟨s0, s1⟩ := hS'
        go_simp
      change wpAnyU _ _ _ _ _ _ _ _ (Act.put _ (some 27) _) _
      simp only [Act.put, List.setIfInBounds_toArray, List.set_cons_succ, List.set_cons_zero]
      refine wpAnyU_take (i := 9) (v := (.int .i64 (j : Nat))) rfl (by kernel_rfl) (fun _ _ _ h => h) (leads_of [[14]] (by kernel_rfl)) (by kernel_rfl) (by kernel_rfl) (by kernel_rfl) (Or.inl ⟨by rfl, ?_⟩) hS ?_
      · intro w' hS'
        obtain ⟨s0, s1⟩ := hS'
        go_simp
      change wpAnyU _ _ _ _ _ _ _ _ (Act.put _ (some 28) _) _
      simp only [Act.put, List.setIfInBounds_toArray, List.set_cons_succ, List.set_cons_zero]
      refine wpAnyU_take (i := 10) (v := (.pointer (some ⟨b1, j * 2, none⟩))) rfl (by kernel_rfl) (fun _ _ _ h => h) (leads_of [[14]] (by kernel_rfl)) (by kernel_rfl) (by kernel_rfl) (by kernel_rfl) (Or.inl ⟨by rfl, ?_⟩) hS ?_
      · intro w' hS'
        obtain ⟨s0, s1⟩ := hS'
        go_simp
      change wpAnyU _ _ _ _ _ _ _ _ (Act.put _ (some 29) _) _
      simp only [Act.put, List.setIfInBounds_toArray, List.set_cons_succ, List.set_cons_zero]
      refine wpAnyU_take (i := 11) (v := (.pointer (some ⟨b1, j * 2, none⟩))) rfl (by kernel_rfl) (fun _ _ _ h => h) (leads_of [[14]] (by kernel_rfl)) (by kernel_rfl) (by kernel_rfl) (by kernel_rfl) (Or.inl ⟨by rfl, ?_⟩) hS ?_
      · intro w' hS'
        obtain ⟨s0, s1⟩ := hS'
        go_simp
      change wpAnyU _ _ _ _ _ _ _ _ (Act.put _ (some 30) _) _
      simp only [Act.put, List.setIfInBounds_toArray, List.set_cons_succ, List.set_cons_zero]
      refine wpAnyU_all (rs := [12]) (by kernel_rfl) (by simp) ?_
      intro j hj
      obtain rfl := List.mem_singleton.1 hj
      clear hj
      refine wpOp_shut rfl (fun K' HK => ?_)
      go_simp
      refine HK.out _ _ ⟨.inr ?_, ?_⟩
      · exact ⟨far_cell (W := wr.drew) (b := b1) (o := j * 2) hab1 (.int .i64 (-1)) c1, far_cell (W := wr.drew) (b := b1) (o := j * 2) hab1 (.int .i64 (-1)) c2⟩
      clear HK K'
      have hS := And.intro (far_cell (W := wr.drew) (b := b1) (o := j * 2) hab1 (.int .i64 (-1)) c1) (far_cell (W := wr.drew) (b := b1) (o := j * 2) hab1 (.int .i64 (-1)) c2)
      refine wpAnyU_take (i := 13) (v := (.pointer (some ⟨b2, j, none⟩))) rfl (by kernel_rfl) (fun _ _ _ h => h) (leads_of [[14]] (by kernel_rfl)) (by kernel_rfl) (by kernel_rfl) (by kernel_rfl) (Or.inl ⟨by rfl, ?_⟩) hS ?_
      · intro w' hS'
        obtain ⟨s0, s1⟩ := hS'
        go_simp
      change wpAnyU _ _ _ _ _ _ _ _ (Act.put _ (some 31) _) _
      simp only [Act.put, List.setIfInBounds_toArray, List.set_cons_succ, List.set_cons_zero]
      refine wpAnyU_all (rs := [14]) (by kernel_rfl) (by simp) ?_
      intro j hj
      obtain rfl := List.mem_singleton.1 hj
      clear hj
      refine wpOp_shut rfl (fun K' HK => ?_)
      go_simp
      refine HK.out _ _ ⟨.inl (by decide), ?_⟩
      clear HK K'
      refine wpAnyU_done (by kernel_rfl) ?_ _
      go_wp2_with fail
      go_roundw
      case rel =>
        refine ⟨j + 1, by omega, by go_num, hid ?_, hid ?_⟩
        · have h1 := ((HI.out.below (Below.refl wr.heap.size wr).drew).setDepth (k := j) (mark_at hlt) (-1)).setSlot (k := j) (-1)
          simp only [Lk.spot, mark_set hlt, mark2_set hlt] at h1
          exact h1
        · exact (HB.out.drew.setCell (p := ⟨b1, j * 2, none⟩) HLE.out.1 _).setCell (p := ⟨b2, j, none⟩) HLE.out.2.1 _
      case measure => simp [RowKit.intOf]; omega
    · obtain rfl : j = l.length := by omega
      rw [mark_end, mark2_end] at HI
      have hlook := look_ok ⟨a, g, cap, b1, b2, okl, l⟩ m HR.out HI.out
      have HLK := hid hlook
      have e1 : ((l.length - 1 : Nat) : Int) = (l.length : Int) - 1 := by omega
      clear hlook
      rw [e1] at HLK
      go_wp2_with fail
      refine HLK.out.mono ?_
      rintro e w2 ⟨rfl, o2, v2, h2, k2, s2⟩
      have H2 := hid h2
      have HB2 := hid (below_kp HB.out (Nat.le_refl _) k2 (fun k hk => by
        rcases hk with q | q | q | q
        · rw [q]; exact HLE.out.2.2
        · rw [q]; exact HLE.out.1
        · rw [q]; exact HLE.out.2.1
        · exact q.elim))
      clear h2 k2 s2
      go_wp2_with fail
      go_ret
      exact ⟨a, b1, b2, _, _, rfl, H2.out, HB2.out, HLE.out.1, HLE.out.2.1⟩
end
end Go.Proofs.Ytibepkblgliooaa.Q
namespace Go.Proofs.Ytibepkblgliooaa.Q
open Go.RowKit
open Go.Proofs.YtibepkblgliooaaW.PrintWords
section
variable {n k : Nat} {ks : List Nat} {S S' : Ps} {w : World} {a : Nat} {ok : Nat → Prop} {v : Value}
set_option maxHeartbeats 800000 in
set_option maxRecDepth 100000 in
theorem block_w (G : ∀ m, m < n → Good m) (hr : run n .block S = some (k, ks, S')) (h : PI w a ok v S) : Calls Try.prog 63 #[ptr a] w (Ret w a ok k S') := by
  cases n with
  | zero => cases hr
  | succ n =>
  have hG := G n (Nat.lt_succ_self n)
  change blockF (run n) S = _ at hr
  have H0 := hid (At.start h)
  clear G h
  unfold blockF at hr
  obtain ⟨⟨x1, x2, x3⟩, hx, hr2⟩ := Option.bind_eq_some_iff.1 hr
  have HX := hid hx
  clear hr hx
  dsimp only at hr2
  have hr := hr2
  clear hr2
  obtain ⟨hr2, rfl⟩ := one1_some hr
  have HR := hid hr2
  clear hr hr2
  have c4 := H0.out.p.c4
  unfold ptr
  go_enter Try.func63, Try.ntmps63
  go_wp2_with fail
  clear c4
  refine (must_c H0.out.p (⟨#[123]⟩ : ByteArray)).mono ?_
  rintro e w1 ⟨rfl, hN⟩
  obtain ⟨ok1, v1, h1, m1⟩ := H0.out.call hN
  have H1 := hid h1
  clear hN h1 m1 H0
  go_wp2_with fail
  refine (hG.list HX.out H1.out.p).mono ?_
  rintro e w2 ⟨val, ok2, v2, rfl, g2, l2⟩
  obtain ⟨A2, c2, rfl⟩ := l2.slice
  obtain ⟨h2, m2⟩ := H1.out.trans g2
  have H2 := hid h2
  have L := hid (l2.le H1.out.kp.size)
  clear g2 l2 h2 m2 H1
  go_wp2_with fail
  refine (must_c H2.out.p (⟨#[125]⟩ : ByteArray)).mono ?_
  rintro e w3 ⟨rfl, hN⟩
  obtain ⟨ok3, v3, h3, m3⟩ := H2.out.call hN
  have H3 := hid h3
  replace L := hid (L.out.mv m3)
  clear hN h3 m3 H2
  go_wp2_with fail
  refine (put_row H3.out L.out HR.out).mono ?_
  rintro e wz ⟨rfl, hN⟩
  have HN := hid hN
  clear hN
  go_wp2_with fail
  go_ret
  exact ⟨ret_nat rfl, HN.out⟩
set_option maxHeartbeats 800000 in
set_option maxRecDepth 100000 in
theorem stmt_w (G : ∀ m, m < n → Good m) (hr : run n .stmt S = some (k, ks, S')) (h : PI w a ok v S) : Calls Try.prog 36 #[ptr a] w (Ret w a ok k S') := by
  cases n with
  | zero => cases hr
  | succ n =>
  have hG := G n (Nat.lt_succ_self n)
  change stmtF (run n) S = _ at hr
  have H0 := hid (At.start h)
  clear G h
  unfold stmtF at hr
  rcases Bool.eq_false_or_eq_true (S.inn.bad) with hb | hb
  · skip
    rw [if_pos hb] at hr
    obtain ⟨rfl, rfl, rfl⟩ := some3 hr
    have HE := hid (in_hit H0.out.p hb)
    clear hr hb
    unfold ptr
    go_enter Try.func36, Try.ntmps36
    go_wp2_with fail
    refine (HE.out).mono ?_
    rintro e w1 ⟨rfl, hN⟩
    obtain ⟨ok1, v1, h1, m1⟩ := H0.out.call hN
    have H1 := hid h1
    clear hN h1 m1 H0
    go_wp2_with fail
    refine (out_c H1.out.p).mono ?_
    rintro e w2 ⟨rfl, hN⟩
    obtain ⟨ok2, v2, h2, m2⟩ := H1.out.call hN
    have H2 := hid h2
    clear hN h2 m2 H1
    go_wp2_with fail
    go_ret
    exact ⟨ret_nat rfl, H2.out.nx⟩
  · skip
    rw [if_f hb] at hr
    obtain ⟨⟨x1, x2, x3⟩, hx, hr2⟩ := Option.bind_eq_some_iff.1 hr
    have HX := hid hx
    clear hr hx
    dsimp only at hr2
    have hr := hr2
    clear hr2
    obtain ⟨rfl, rfl, rfl⟩ := some3 hr
    have HE := hid (in_hit H0.out.p hb)
    clear hr hb
    unfold ptr
    go_enter Try.func36, Try.ntmps36
    go_wp2_with fail
    refine (HE.out).mono ?_
    rintro e w1 ⟨rfl, hN⟩
    obtain ⟨ok1, v1, h1, m1⟩ := H0.out.call hN
    have H1 := hid h1
    clear hN h1 m1 H0
    go_wp2_with fail
    refine (hG.one HX.out H1.out.p).mono ?_
    rintro e w2 ⟨rfl, hN⟩
    obtain ⟨ok2, v2, h2, m2⟩ := H1.out.call hN
    have H2 := hid h2
    clear hN h2 m2 H1
    go_wp2_with fail
    refine (out_c H2.out.p).mono ?_
    rintro e w3 ⟨rfl, hN⟩
    obtain ⟨ok3, v3, h3, m3⟩ := H2.out.call hN
    have H3 := hid h3
    clear hN h3 m3 H2
    go_wp2_with fail
    go_ret
    exact ⟨ret_nat rfl, H3.out.nx⟩
set_option maxHeartbeats 800000 in
set_option maxRecDepth 100000 in
theorem inner_w (G : ∀ m, m < n → Good m) (hr : run n .inner S = some (k, ks, S')) (h : PI w a ok v S) : Calls Try.prog 68 #[ptr a] w (Ret w a ok k S') := by
  cases n with
  | zero => cases hr
  | succ n =>
  have hG := G n (Nat.lt_succ_self n)
  change innerF (run n) S = _ at hr
  have H0 := hid (At.start h)
  clear G h
  unfold innerF at hr
  rcases Bool.eq_false_or_eq_true (S.is (⟨#[108, 101, 116]⟩ : ByteArray)) with hb0 | hb0
  · skip
    rw [if_pos (by simp [hb0])] at hr
    obtain ⟨rfl, rfl, rfl⟩ := some3 hr
    clear hr
    have HI0 := hid (is_hit H0.out.p (⟨#[108, 101, 116]⟩ : ByteArray) hb0)
    clear hb0
    have c9 := H0.out.p.c9
    have f9 := H0.out.p.f 9
    unfold ptr
    go_enter Try.func68, Try.ntmps68
    go_wp2_with fail
    refine (HI0.out).mono ?_
    rintro e w' ⟨rfl, rfl⟩
    go_wp2_with fail
    go_ret
    exact ⟨ret_nat rfl, H0.out.spoil⟩
  · skip
    rcases Bool.eq_false_or_eq_true (S.is (⟨#[99, 111, 110, 115, 116]⟩ : ByteArray)) with hb1 | hb1
    · skip
      rw [if_pos (by simp [hb0, hb1])] at hr
      obtain ⟨rfl, rfl, rfl⟩ := some3 hr
      clear hr
      have HI0 := hid (is_hit H0.out.p (⟨#[108, 101, 116]⟩ : ByteArray) hb0)
      have HI1 := hid (is_hit H0.out.p (⟨#[99, 111, 110, 115, 116]⟩ : ByteArray) hb1)
      clear hb0 hb1
      have c9 := H0.out.p.c9
      have f9 := H0.out.p.f 9
      unfold ptr
      go_enter Try.func68, Try.ntmps68
      go_wp2_with fail
      refine (HI0.out).mono ?_
      rintro e w' ⟨rfl, rfl⟩
      go_wp2_with fail
      refine (HI1.out).mono ?_
      rintro e w' ⟨rfl, rfl⟩
      go_wp2_with fail
      go_ret
      exact ⟨ret_nat rfl, H0.out.spoil⟩
    · skip
      rcases Bool.eq_false_or_eq_true (S.is (⟨#[102, 117, 110, 99, 116, 105, 111, 110]⟩ : ByteArray)) with hb2 | hb2
      · skip
        rw [if_pos (by simp [hb0, hb1, hb2])] at hr
        obtain ⟨rfl, rfl, rfl⟩ := some3 hr
        clear hr
        have HI0 := hid (is_hit H0.out.p (⟨#[108, 101, 116]⟩ : ByteArray) hb0)
        have HI1 := hid (is_hit H0.out.p (⟨#[99, 111, 110, 115, 116]⟩ : ByteArray) hb1)
        have HI2 := hid (is_hit H0.out.p (⟨#[102, 117, 110, 99, 116, 105, 111, 110]⟩ : ByteArray) hb2)
        clear hb0 hb1 hb2
        have c9 := H0.out.p.c9
        have f9 := H0.out.p.f 9
        unfold ptr
        go_enter Try.func68, Try.ntmps68
        go_wp2_with fail
        refine (HI0.out).mono ?_
        rintro e w' ⟨rfl, rfl⟩
        go_wp2_with fail
        refine (HI1.out).mono ?_
        rintro e w' ⟨rfl, rfl⟩
        go_wp2_with fail
        refine (HI2.out).mono ?_
        rintro e w' ⟨rfl, rfl⟩
        go_wp2_with fail
        go_ret
        exact ⟨ret_nat rfl, H0.out.spoil⟩
      · skip
        rw [if_neg (by simp [hb0, hb1, hb2])] at hr
        have HI0 := hid (is_hit H0.out.p (⟨#[108, 101, 116]⟩ : ByteArray) hb0)
        have HI1 := hid (is_hit H0.out.p (⟨#[99, 111, 110, 115, 116]⟩ : ByteArray) hb1)
        have HI2 := hid (is_hit H0.out.p (⟨#[102, 117, 110, 99, 116, 105, 111, 110]⟩ : ByteArray) hb2)
        clear hb0 hb1 hb2
        rcases Bool.eq_false_or_eq_true (S.bad) with hb | hb
        · skip
          rw [if_pos hb] at hr
          obtain ⟨rfl, rfl, rfl⟩ := some3 hr
          clear hr
          have c9 := H0.out.p.c9
          rw [hb] at c9
          clear hb
          unfold ptr
          go_enter Try.func68, Try.ntmps68
          go_wp2_with fail
          refine (HI0.out).mono ?_
          rintro e w' ⟨rfl, rfl⟩
          go_wp2_with fail
          refine (HI1.out).mono ?_
          rintro e w' ⟨rfl, rfl⟩
          go_wp2_with fail
          refine (HI2.out).mono ?_
          rintro e w' ⟨rfl, rfl⟩
          go_wp2_with fail
          go_ret
          exact ⟨ret_nat rfl, H0.out.nx⟩
        · skip
          rw [if_f hb] at hr
          have HX := hid hr
          clear hr
          have c9 := H0.out.p.c9
          rw [hb] at c9
          clear hb
          unfold ptr
          go_enter Try.func68, Try.ntmps68
          go_wp2_with fail
          refine (HI0.out).mono ?_
          rintro e w' ⟨rfl, rfl⟩
          go_wp2_with fail
          refine (HI1.out).mono ?_
          rintro e w' ⟨rfl, rfl⟩
          go_wp2_with fail
          refine (HI2.out).mono ?_
          rintro e w' ⟨rfl, rfl⟩
          go_wp2_with fail
          refine (hG.stmt HX.out H0.out.p).mono ?_
          rintro e w1 ⟨rfl, hN⟩
          obtain ⟨ok1, v1, h1, m1⟩ := H0.out.call hN
          have H1 := hid h1
          clear hN h1 m1 H0
          go_wp2_with fail
          go_ret
          exact ⟨ret_nat rfl, H1.out.nx⟩
set_option maxHeartbeats 800000 in
set_option maxRecDepth 100000 in
theorem cond_w (G : ∀ m, m < n → Good m) (hr : run n .cond S = some (k, ks, S')) (h : PI w a ok v S) : Calls Try.prog 95 #[ptr a] w (Ret w a ok k S') := by
  cases n with
  | zero => cases hr
  | succ n =>
  have hG := G n (Nat.lt_succ_self n)
  change condF (run n) S = _ at hr
  have H0 := hid (At.start h)
  clear G h
  unfold condF at hr
  obtain ⟨⟨x1, x2, x3⟩, hx, hr2⟩ := Option.bind_eq_some_iff.1 hr
  have HX := hid hx
  clear hr hx
  dsimp only at hr2
  have hr := hr2
  clear hr2
  rcases Bool.eq_false_or_eq_true (x3.bad) with hb | hb
  · skip
    rw [if_pos (by simp [hb])] at hr
    obtain ⟨rfl, rfl, rfl⟩ := some3 hr
    clear hr
    have HB := hid hb
    clear hb
    unfold ptr
    go_enter Try.func95, Try.ntmps95
    go_wp2_with fail
    refine (hG.binary (level := 0) HX.out (by decide) H0.out.p).mono ?_
    rintro e w1 ⟨rfl, hN⟩
    obtain ⟨ok1, v1, h1, m1⟩ := H0.out.call hN
    have H1 := hid h1
    clear hN h1 m1 H0
    have c9 := H1.out.p.c9
    rw [HB.out] at c9
    go_wp2_with fail
    go_ret
    exact ⟨ret_nat rfl, H1.out.nx⟩
  · skip
    have hb0 := hb
    clear hb
    have HB0 := hid hb0
    rcases Bool.eq_false_or_eq_true (x3.hasB (⟨#[63]⟩ : ByteArray)) with hb | hb
    · skip
      have HB1 := hid hb
      rw [if_neg (by simp [hb0, hb])] at hr
      obtain ⟨⟨a1, a2, a3⟩, ha, hr2⟩ := Option.bind_eq_some_iff.1 hr
      have HA := hid ha
      clear hr ha
      dsimp only at hr2
      have hr := hr2
      clear hr2
      rcases Bool.eq_false_or_eq_true ((a3.must (⟨#[58]⟩ : ByteArray)).bad) with hb | hb
      · skip
        rw [if_pos hb] at hr
        obtain ⟨rfl, rfl, rfl⟩ := some3 hr
        have HB2 := hid hb
        clear hr hb
        unfold ptr
        go_enter Try.func95, Try.ntmps95
        go_wp2_with fail
        refine (hG.binary (level := 0) HX.out (by decide) H0.out.p).mono ?_
        rintro e w1 ⟨rfl, hN⟩
        obtain ⟨ok1, v1, h1, m1⟩ := H0.out.call hN
        have H1 := hid h1
        clear hN h1 m1 H0
        have c9 := H1.out.p.c9
        rw [HB0.out] at c9
        go_wp2_with fail
        clear c9
        refine (has_hit H1.out.p (⟨#[63]⟩ : ByteArray) HB1.out).mono ?_
        rintro e w2 ⟨rfl, hN⟩
        obtain ⟨ok2, v2, h2, m2⟩ := H1.out.call hN
        have H2 := hid h2
        clear hN h2 m2 H1
        go_wp2_with fail
        refine (hG.e HA.out H2.out.p).mono ?_
        rintro e w3 ⟨rfl, hN⟩
        obtain ⟨ok3, v3, h3, m3⟩ := H2.out.call hN
        have H3 := hid h3
        clear hN h3 m3 H2
        go_wp2_with fail
        refine (must_c H3.out.p (⟨#[58]⟩ : ByteArray)).mono ?_
        rintro e w4 ⟨rfl, hN⟩
        obtain ⟨ok4, v4, h4, m4⟩ := H3.out.call hN
        have H4 := hid h4
        clear hN h4 m4 H3
        have c9 := H4.out.p.c9
        rw [HB2.out] at c9
        go_wp2_with fail
        go_ret
        exact ⟨ret_nat rfl, H4.out.nx⟩
      · skip
        rw [if_f hb] at hr
        obtain ⟨⟨b1, b2, b3⟩, hb, hr2⟩ := Option.bind_eq_some_iff.1 hr
        have HB := hid hb
        clear hr hb
        dsimp only at hr2
        have hr := hr2
        clear hr2
        obtain ⟨q, hq, hr2⟩ := Option.bind_eq_some_iff.1 hr
        obtain ⟨hr3, rfl⟩ := one1_some hr2
        have HQ := hid hq
        have HR := hid hr3
        have HB2 := hid hb
        clear hr hr2 hr3 hq hb
        unfold ptr
        go_enter Try.func95, Try.ntmps95
        go_wp2_with fail
        refine (hG.binary (level := 0) HX.out (by decide) H0.out.p).mono ?_
        rintro e w1 ⟨rfl, hN⟩
        obtain ⟨ok1, v1, h1, m1⟩ := H0.out.call hN
        have H1 := hid h1
        clear hN h1 m1 H0
        have c9 := H1.out.p.c9
        rw [HB0.out] at c9
        go_wp2_with fail
        clear c9
        refine (has_hit H1.out.p (⟨#[63]⟩ : ByteArray) HB1.out).mono ?_
        rintro e w2 ⟨rfl, hN⟩
        obtain ⟨ok2, v2, h2, m2⟩ := H1.out.call hN
        have H2 := hid h2
        clear hN h2 m2 H1
        go_wp2_with fail
        refine (hG.e HA.out H2.out.p).mono ?_
        rintro e w3 ⟨rfl, hN⟩
        obtain ⟨ok3, v3, h3, m3⟩ := H2.out.call hN
        have H3 := hid h3
        clear hN h3 m3 H2
        go_wp2_with fail
        refine (must_c H3.out.p (⟨#[58]⟩ : ByteArray)).mono ?_
        rintro e w4 ⟨rfl, hN⟩
        obtain ⟨ok4, v4, h4, m4⟩ := H3.out.call hN
        have H4 := hid h4
        clear hN h4 m4 H3
        have c9 := H4.out.p.c9
        rw [HB2.out] at c9
        go_wp2_with fail
        clear c9
        refine (hG.e HB.out H4.out.p).mono ?_
        rintro e w5 ⟨rfl, hN⟩
        obtain ⟨ok5, v5, h5, m5⟩ := H4.out.call hN
        have H5 := hid h5
        clear hN h5 m5 H4
        obtain ⟨nd0, hnd, rfl⟩ := Option.map_eq_some_iff.1 (show Option.map Nd.at_ _ = some q from HQ.out)
        obtain ⟨g0, cap0, ev, lg, lk, q0, q5⟩ := H5.out.p.node hnd
        have c7 := H5.out.p.c7
        rw [ev] at c7
        have lk' : (x1 : Int) < (_ : Nat) := Int.ofNat_lt.2 lk
        have la := H5.out.p.lt
        clear hnd ev lk
        go_wp2_with fail
        clear q0 q5 c7 lk' la lg
        have L := hid (LR.three H5.out x1 a1 b1)
        replace H5 := hid (H5.out.alloc (.cells #[.int .i64 x1, .int .i64 a1, .int .i64 b1] 3))
        refine (put_row H5.out L.out HR.out).mono ?_
        rintro e wz ⟨rfl, hN⟩
        have HN := hid hN
        clear hN
        go_wp2_with fail
        go_ret
        exact ⟨ret_nat rfl, HN.out⟩
    · skip
      rw [if_pos (by simp [hb0, hb])] at hr
      obtain ⟨rfl, rfl, rfl⟩ := some3 hr
      clear hr
      have HB0 := hid hb0
      have HB1 := hid hb
      clear hb hb0
      unfold ptr
      go_enter Try.func95, Try.ntmps95
      go_wp2_with fail
      refine (hG.binary (level := 0) HX.out (by decide) H0.out.p).mono ?_
      rintro e w1 ⟨rfl, hN⟩
      obtain ⟨ok1, v1, h1, m1⟩ := H0.out.call hN
      have H1 := hid h1
      clear hN h1 m1 H0
      have c9 := H1.out.p.c9
      rw [HB0.out] at c9
      go_wp2_with fail
      clear c9
      refine (has_miss H1.out.p (⟨#[63]⟩ : ByteArray) HB1.out).mono ?_
      rintro e w2 ⟨rfl, hN⟩
      obtain ⟨ok2, v2, h2, m2⟩ := H1.out.call hN
      have H2 := hid h2
      clear hN h2 m2 H1
      go_wp2_with fail
      go_ret
      exact ⟨ret_nat rfl, H2.out.nx⟩
end
end Go.Proofs.Ytibepkblgliooaa.Q
