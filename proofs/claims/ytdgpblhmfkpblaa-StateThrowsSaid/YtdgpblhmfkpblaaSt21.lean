/- A view in memory of its own. -/
import Derived.Test.YtdgpblhmfkpblaaSt10
import Derived.Test.YtdgpblhmfkpblaaOv
import Derived.Handy
import Derived.StillTailTactics
namespace Go.Proofs.Ytdgpblhmfkpblaa.Pg
open Go.RowKit

theorem keepc {W w1 : World} (hb : Below W.heap.size W w1) {b o : Nat} {v : Value} (hc : W.cell? ⟨b, o, none⟩ = some v) : w1.cell? ⟨b, o, none⟩ = some v := carry hb (block_lt_of_cell hc) hc
theorem FrOut.set {w : World} {base k : Nat} {F : FrD} {c : List Value} (h : FrOut w base F c) (hk : k < base) (o : Nat) (u : Value) : FrOut (w.setCell ⟨k, o, none⟩ u) base F c := by
  obtain ⟨A, n, p, A', n', p', e, h1, h2⟩ := h
  exact ⟨A, n, p, A', n', p', e, h1.set hk o u, h2.set hk o u⟩
theorem FrOuts.set {w : World} {base k : Nat} {Fs : List FrD} {rows : List (List Value)} (h : FrOuts w base Fs rows) (hk : k < base) (o : Nat) (u : Value) : FrOuts (w.setCell ⟨k, o, none⟩ u) base Fs rows :=
  ⟨h.1, fun i F hF => by obtain ⟨c, hc, hf⟩ := h.2 i F hF; exact ⟨c, hc, hf.set hk o u⟩⟩
theorem FrOuts.low {w : World} {base base' : Nat} {Fs : List FrD} {rows : List (List Value)} (h : FrOuts w base Fs rows) (hb : base' ≤ base) : FrOuts w base' Fs rows :=
  ⟨h.1, fun i F hF => by obtain ⟨c, hc, hf⟩ := h.2 i F hF; exact ⟨c, hc, hf.low hb⟩⟩
set_option maxHeartbeats 800000 in
set_option maxRecDepth 100000 in
theorem copiedVal_nil (w : World) : Calls Try.prog 94 #[.slice none 0 0, .func (.func 95) #[] #[]] w fun e w' => e = .returned (.slice none 0 0) ∧ w' = w := by
  go_enter Try.func94, Try.ntmps94
  go_wp2_with fail
  go_loopw [5, 10] (fun v i wx => v = .slice none 0 0 ∧ i = .int .i64 0 ∧ wx = w) (fun _ _ _ => 0)
  case atStart => exact ⟨rfl, rfl, rfl⟩
  case round =>
    obtain ⟨rfl, rfl, rfl⟩ := hrel
    go_wp2_with fail
    go_ret
    exact ⟨rfl, rfl⟩

set_option maxHeartbeats 3200000 in
set_option maxRecDepth 100000 in
theorem view_c {B : Bd} {w : World} {st : Int} {Fs : List FrD} {rows : List (List Value)} {js : List JobD} {outs : List ByteArray} {A A' A'' : Option Addr} {n p n' p' n'' p'' : Nat}
    (hr : RowR B w 9 (.slice A n p) rows) (hF : FramesR B w Fs rows) (hj : RowR B w 8 (.slice A' n' p') (js.map JobD.row)) (ho : RowR B w 1 (.slice A'' n'' p'') (outs.map keyRow)) (hn : n ≤ 100000) (hn' : n' ≤ 100000) (hn'' : n'' ≤ 100000)
    (hsm : ∀ F ∈ Fs, F.vals.length ≤ 100000 ∧ F.tries.length ≤ 100000) :
    Calls Try.prog 51 #[.agg #[.int .i64 st, .int .i64 0, .int .i64 0, .slice none 0 0, .slice A n p, .int .i64 0, .slice A' n' p', .slice none 0 0, .int .i64 0, .slice none 0 0, .slice none 0 0, .slice A'' n'' p'']] w fun e w' => ∃ A1 n1 p1 A2 n2 p2 A3 n3 p3 rows', e = .returned (.agg #[.int .i64 st, .int .i64 0, .int .i64 0, .slice none 0 0, .slice A1 n1 p1, .int .i64 0, .slice A2 n2 p2, .slice none 0 0, .int .i64 0, .slice none 0 0, .slice none 0 0, .slice A3 n3 p3]) ∧ Below w.heap.size w w' ∧
      ROut w' (w.heap.size + 2) 50 9 (.slice A1 n1 p1) rows' ∧ FrOuts w' (w.heap.size + 2) Fs rows' ∧ ROut w' (w.heap.size + 2) 69 8 (.slice A2 n2 p2) (js.map JobD.row) ∧ ROut w' (w.heap.size + 2) 9 1 (.slice A3 n3 p3) (outs.map keyRow) := by
  have HR := hid hr
  have HF := hid hF
  have HJ := hid hj
  have HO := hid ho
  have HS := hid hsm
  clear hr hF hj ho hsm
  have hbW : Below w.heap.size w ((w.alloc (Obj.cells #[.int .i64 st, .int .i64 0, .int .i64 0, .slice none 0 0, .slice A n p, .int .i64 0, .slice A' n' p', .slice none 0 0, .int .i64 0, .slice none 0 0, .slice none 0 0, .slice A'' n'' p''] 44)).alloc (Obj.cells #[.int .i64 0, .int .i64 0, .int .i64 0, .slice none 0 0, .slice none 0 0, .int .i64 0, .slice none 0 0, .slice none 0 0, .int .i64 0, .slice none 0 0, .slice none 0 0, .slice none 0 0] 44)) := ((Below.refl _ _).alloc (Nat.le_refl _) _).alloc (by go_size) _
  have r1 : ((w.alloc (Obj.cells #[.int .i64 st, .int .i64 0, .int .i64 0, .slice none 0 0, .slice A n p, .int .i64 0, .slice A' n' p', .slice none 0 0, .int .i64 0, .slice none 0 0, .slice none 0 0, .slice A'' n'' p''] 44)).alloc (Obj.cells #[.int .i64 0, .int .i64 0, .int .i64 0, .slice none 0 0, .slice none 0 0, .int .i64 0, .slice none 0 0, .slice none 0 0, .int .i64 0, .slice none 0 0, .slice none 0 0, .slice none 0 0] 44)).heap[w.heap.size]? = some (.cells #[.int .i64 st, .int .i64 0, .int .i64 0, .slice none 0 0, .slice A n p, .int .i64 0, .slice A' n' p', .slice none 0 0, .int .i64 0, .slice none 0 0, .slice none 0 0, .slice A'' n'' p''] 44 (0, 0)) := by
    rw [heap_alloc_old _ _ (by go_size), heap_alloc_new]
  have r2 := heap_alloc_new (w.alloc (Obj.cells #[.int .i64 st, .int .i64 0, .int .i64 0, .slice none 0 0, .slice A n p, .int .i64 0, .slice A' n' p', .slice none 0 0, .int .i64 0, .slice none 0 0, .slice none 0 0, .slice A'' n'' p''] 44)) (Obj.cells #[.int .i64 0, .int .i64 0, .int .i64 0, .slice none 0 0, .slice none 0 0, .int .i64 0, .slice none 0 0, .slice none 0 0, .int .i64 0, .slice none 0 0, .slice none 0 0, .slice none 0 0] 44)
  rw [show (w.alloc (Obj.cells #[.int .i64 st, .int .i64 0, .int .i64 0, .slice none 0 0, .slice A n p, .int .i64 0, .slice A' n' p', .slice none 0 0, .int .i64 0, .slice none 0 0, .slice none 0 0, .slice A'' n'' p''] 44)).heap.size = w.heap.size + 1 by go_size] at r2
  have hz : ((w.alloc (Obj.cells #[.int .i64 st, .int .i64 0, .int .i64 0, .slice none 0 0, .slice A n p, .int .i64 0, .slice A' n' p', .slice none 0 0, .int .i64 0, .slice none 0 0, .slice none 0 0, .slice A'' n'' p''] 44)).alloc (Obj.cells #[.int .i64 0, .int .i64 0, .int .i64 0, .slice none 0 0, .slice none 0 0, .int .i64 0, .slice none 0 0, .slice none 0 0, .int .i64 0, .slice none 0 0, .slice none 0 0, .slice none 0 0] 44)).heap.size = w.heap.size + 2 := by go_size
  go_enter Try.func51, Try.ntmps51
  go_upto_region 1 with fail
  generalize ((w.alloc (Obj.cells #[.int .i64 st, .int .i64 0, .int .i64 0, .slice none 0 0, .slice A n p, .int .i64 0, .slice A' n' p', .slice none 0 0, .int .i64 0, .slice none 0 0, .slice none 0 0, .slice A'' n'' p''] 44)).alloc (Obj.cells #[.int .i64 0, .int .i64 0, .int .i64 0, .slice none 0 0, .slice none 0 0, .int .i64 0, .slice none 0 0, .slice none 0 0, .int .i64 0, .slice none 0 0, .slice none 0 0, .slice none 0 0] 44)) = W at hbW r1 r2 hz ⊢
  have c4 := (cell_of_row W _ 4 _ _ _ r1).trans (b := some (Value.slice A n p)) rfl
  have c6 := (cell_of_row W _ 6 _ _ _ r1).trans (b := some (Value.slice A' n' p')) rfl
  have c7 := (cell_of_row W _ 7 _ _ _ r1).trans (b := some (Value.slice none 0 0)) rfl
  have hzz : w.heap.size < W.heap.size := by omega
  have R2 := hid r2
  have R1 := hid r1
  have HB := hid hbW
  have HZ := hid hz
  clear r1 r2 hbW hz
  refine wp_region_until [10, 11, 12, 13, 14] (S := (fun w' => w'.cell? ⟨w.heap.size, 4, none⟩ = some (.slice A n p) ∧ w'.cell? ⟨w.heap.size, 6, none⟩ = some (.slice A' n' p') ∧ w'.cell? ⟨w.heap.size, 7, none⟩ = some (.slice none 0 0))) (by kernel_rfl) ?_ ?_
  · exact ⟨c4, c6, c7⟩
  intro hS
  refine wpAnyU_take (i := 0) (v := (.pointer (some ⟨w.heap.size, 4, none⟩))) rfl (by kernel_rfl) (fun _ _ _ h => h) (leads_of [[10], [11], [12], [13], [14]] (by kernel_rfl)) (by kernel_rfl) (by kernel_rfl) (by kernel_rfl) (Or.inl ⟨by rfl, ?_⟩) hS ?_
  · intro w' hS'
    obtain ⟨s0, s1, s2⟩ := hS'
    go_simp
  change wpAnyU _ _ _ _ _ _ _ _ (Act.put _ (some 3) _) _
  simp only [Act.put, List.setIfInBounds_toArray, List.set_cons_succ, List.set_cons_zero]
  refine wpAnyU_take (i := 1) (v := (.slice A n p)) rfl (by kernel_rfl) (fun _ _ _ h => h) (leads_of [[10], [11], [12], [13], [14]] (by kernel_rfl)) (by kernel_rfl) (by kernel_rfl) (by kernel_rfl) (Or.inl ⟨by rfl, ?_⟩) hS ?_
  · intro w' hS'
    obtain ⟨s0, s1, s2⟩ := hS'
    go_simp
  change wpAnyU _ _ _ _ _ _ _ _ (Act.put _ (some 4) _) _
  simp only [Act.put, List.setIfInBounds_toArray, List.set_cons_succ, List.set_cons_zero]
  refine wpAnyU_take (i := 3) (v := (.pointer (some ⟨w.heap.size, 6, none⟩))) rfl (by kernel_rfl) (fun _ _ _ h => h) (leads_of [[10], [11], [12], [13], [14]] (by kernel_rfl)) (by kernel_rfl) (by kernel_rfl) (by kernel_rfl) (Or.inl ⟨by rfl, ?_⟩) hS ?_
  · intro w' hS'
    obtain ⟨s0, s1, s2⟩ := hS'
    go_simp
  change wpAnyU _ _ _ _ _ _ _ _ (Act.put _ (some 6) _) _
  simp only [Act.put, List.setIfInBounds_toArray, List.set_cons_succ, List.set_cons_zero]
  refine wpAnyU_take (i := 4) (v := (.slice A' n' p')) rfl (by kernel_rfl) (fun _ _ _ h => h) (leads_of [[10], [11], [12], [13], [14]] (by kernel_rfl)) (by kernel_rfl) (by kernel_rfl) (by kernel_rfl) (Or.inl ⟨by rfl, ?_⟩) hS ?_
  · intro w' hS'
    obtain ⟨s0, s1, s2⟩ := hS'
    go_simp
  change wpAnyU _ _ _ _ _ _ _ _ (Act.put _ (some 7) _) _
  simp only [Act.put, List.setIfInBounds_toArray, List.set_cons_succ, List.set_cons_zero]
  refine wpAnyU_take (i := 6) (v := (.pointer (some ⟨w.heap.size, 7, none⟩))) rfl (by kernel_rfl) (fun _ _ _ h => h) (leads_of [[10], [11], [12], [13], [14]] (by kernel_rfl)) (by kernel_rfl) (by kernel_rfl) (by kernel_rfl) (Or.inl ⟨by rfl, ?_⟩) hS ?_
  · intro w' hS'
    obtain ⟨s0, s1, s2⟩ := hS'
    go_simp
  change wpAnyU _ _ _ _ _ _ _ _ (Act.put _ (some 9) _) _
  simp only [Act.put, List.setIfInBounds_toArray, List.set_cons_succ, List.set_cons_zero]
  refine wpAnyU_take (i := 7) (v := (.slice none 0 0)) rfl (by kernel_rfl) (fun _ _ _ h => h) (leads_of [[10], [11], [12], [13], [14]] (by kernel_rfl)) (by kernel_rfl) (by kernel_rfl) (by kernel_rfl) (Or.inl ⟨by rfl, ?_⟩) hS ?_
  · intro w' hS'
    obtain ⟨s0, s1, s2⟩ := hS'
    go_simp
  change wpAnyU _ _ _ _ _ _ _ _ (Act.put _ (some 10) _) _
  simp only [Act.put, List.setIfInBounds_toArray, List.set_cons_succ, List.set_cons_zero]
  refine wpAnyU_all (rs := [2]) (by kernel_rfl) (by simp) ?_
  intro j hj
  obtain rfl := List.mem_singleton.1 hj
  clear hj
  refine wpOp_shut rfl (fun K' HK => ?_)
  refine step_call rfl (f := 86) rfl Try.func86 (by kernel_rfl) rfl #[(.slice A n p), (.func (.func 87) #[] #[])] (by simp only [List.map_toArray, List.map_cons, List.map_nil]; rfl) ?_
  refine (copiedFrame_c (B := B) (Fs := Fs) (rows := rows) (HR.out.move (Fr.of_below HB.out.drew)) (HF.out.move (Fr.of_below HB.out.drew)) hn HS.out).mono ?_
  rintro e w1 ⟨v', rows1, rfl, hb1', hr1, hf1⟩
  refine ⟨_, rfl, ?_⟩
  obtain ⟨A1, p1, e1⟩ := hr1.slice
  subst e1
  have HB1 := hid (below_drew hb1')
  have HR1 := hid hr1
  have HF1 := hid hf1
  clear hb1' hr1 hf1
  refine HK.out _ _ ⟨.inr ?_, ?_⟩
  · exact ⟨keepc HB1.out c4, keepc HB1.out c6, keepc HB1.out c7⟩
  clear HK K'
  have hS := And.intro (keepc HB1.out c4) (And.intro (keepc HB1.out c6) (keepc HB1.out c7))
  change wpAnyU _ _ _ _ _ _ _ _ (Act.put _ (some 5) _) _
  simp only [Act.put, List.setIfInBounds_toArray, List.set_cons_succ, List.set_cons_zero]
  refine wpAnyU_take (i := 9) (v := (.pointer (some ⟨w.heap.size, 4, none⟩))) rfl (by kernel_rfl) (fun _ _ _ h => h) (leads_of [[10], [11], [12], [13], [14]] (by kernel_rfl)) (by kernel_rfl) (by kernel_rfl) (by kernel_rfl) (Or.inl ⟨by rfl, ?_⟩) hS ?_
  · intro w' hS'
    obtain ⟨s0, s1, s2⟩ := hS'
    go_simp
  change wpAnyU _ _ _ _ _ _ _ _ (Act.put _ (some 12) _) _
  simp only [Act.put, List.setIfInBounds_toArray, List.set_cons_succ, List.set_cons_zero]
  refine wpAnyU_all (rs := [5]) (by kernel_rfl) (by simp) ?_
  intro j hj
  obtain rfl := List.mem_singleton.1 hj
  clear hj
  refine wpOp_shut rfl (fun K' HK => ?_)
  refine step_call rfl (f := 88) rfl Try.func88 (by kernel_rfl) rfl #[(.slice A' n' p'), (.func (.func 89) #[] #[])] (by simp only [List.map_toArray, List.map_cons, List.map_nil]; rfl) ?_
  refine (copiedJob_c (B := B) (xs := js) (HJ.out.move (Fr.of_below (HB.out.trans (HB1.out.mono (Nat.le_of_lt hzz))))) hn').mono ?_
  rintro e w2 ⟨v', rfl, hb2, hr2⟩
  refine ⟨_, rfl, ?_⟩
  obtain ⟨A2, p2, e2⟩ := hr2.slice
  rw [List.length_map] at e2
  subst e2
  have HB12 := hid (HB1.out.trans (hb2.mono HB1.out.size))
  have HB2 := hid hb2
  have HR2 := hid hr2
  clear hb2 hr2
  refine HK.out _ _ ⟨.inr ?_, ?_⟩
  · exact ⟨keepc HB12.out c4, keepc HB12.out c6, keepc HB12.out c7⟩
  clear HK K'
  have hS := And.intro (keepc HB12.out c4) (And.intro (keepc HB12.out c6) (keepc HB12.out c7))
  change wpAnyU _ _ _ _ _ _ _ _ (Act.put _ (some 8) _) _
  simp only [Act.put, List.setIfInBounds_toArray, List.set_cons_succ, List.set_cons_zero]
  refine wpAnyU_all (rs := [8]) (by kernel_rfl) (by simp) ?_
  intro j hj
  obtain rfl := List.mem_singleton.1 hj
  clear hj
  refine wpOp_shut rfl (fun K' HK => ?_)
  refine step_call rfl (f := 90) rfl Try.func90 (by kernel_rfl) rfl #[(.slice none 0 0), (.func (.func 91) #[] #[])] (by simp only [List.map_toArray, List.map_cons, List.map_nil]; rfl) ?_
  refine (copiedTimer_nil _).mono ?_
  rintro e w3 ⟨rfl, hw3⟩
  subst w3
  refine ⟨_, rfl, ?_⟩
  refine HK.out _ _ ⟨.inr hS, ?_⟩
  clear HK K'
  change wpAnyU _ _ _ _ _ _ _ _ (Act.put _ (some 11) _) _
  simp only [Act.put, List.setIfInBounds_toArray, List.set_cons_succ, List.set_cons_zero]
  have q1 := (HB2.out.block w.heap.size (Nat.lt_of_lt_of_le hzz HB1.out.size)).trans ((HB1.out.block w.heap.size hzz).trans R1.out)
  have q2 := (HB2.out.block (w.heap.size + 1) (by have := HB1.out.size; have := HZ.out; omega)).trans ((HB1.out.block (w.heap.size + 1) (by have := HZ.out; omega)).trans R2.out)
  have e4 := (cell_of_row _ _ 4 _ _ _ q1).trans (b := some (Value.slice A n p)) rfl
  have e6 := (cell_of_row _ _ 6 _ _ _ q1).trans (b := some (Value.slice A' n' p')) rfl
  have e7 := (cell_of_row _ _ 7 _ _ _ q1).trans (b := some (Value.slice none 0 0)) rfl
  have k4 : w2.frozen? ⟨w.heap.size, 4, none⟩ = false := by simp [World.frozen?, q1]
  have k6 : w2.frozen? ⟨w.heap.size, 6, none⟩ = false := by simp [World.frozen?, q1]
  have k7 : w2.frozen? ⟨w.heap.size, 7, none⟩ = false := by simp [World.frozen?, q1]
  have HQ1 := hid q1
  have HQ2 := hid q2
  clear q1 q2 hS
  refine wpAnyU_all (rs := [10]) (by kernel_rfl) (by simp) ?_
  intro j hj
  obtain rfl := List.mem_singleton.1 hj
  clear hj
  refine wpOp_shut rfl (fun K' HK => ?_)
  go_simp
  refine HK.out _ _ ⟨.inl (by decide), ?_⟩
  clear HK K'
  refine wpAnyU_all (rs := [11]) (by kernel_rfl) (by simp) ?_
  intro j hj
  obtain rfl := List.mem_singleton.1 hj
  clear hj
  refine wpOp_shut rfl (fun K' HK => ?_)
  go_simp
  refine HK.out _ _ ⟨.inl (by decide), ?_⟩
  clear HK K'
  try simp only [Act.put, List.setIfInBounds_toArray, List.set_cons_succ, List.set_cons_zero]
  refine wpAnyU_all (rs := [12]) (by kernel_rfl) (by simp) ?_
  intro j hj
  obtain rfl := List.mem_singleton.1 hj
  clear hj
  refine wpOp_shut rfl (fun K' HK => ?_)
  go_simp
  refine HK.out _ _ ⟨.inl (by decide), ?_⟩
  clear HK K'
  refine wpAnyU_all (rs := [13]) (by kernel_rfl) (by simp) ?_
  intro j hj
  obtain rfl := List.mem_singleton.1 hj
  clear hj
  refine wpOp_shut rfl (fun K' HK => ?_)
  go_simp
  refine HK.out _ _ ⟨.inl (by decide), ?_⟩
  clear HK K'
  try simp only [Act.put, List.setIfInBounds_toArray, List.set_cons_succ, List.set_cons_zero]
  refine wpAnyU_all (rs := [14]) (by kernel_rfl) (by simp) ?_
  intro j hj
  obtain rfl := List.mem_singleton.1 hj
  clear hj
  refine wpOp_shut rfl (fun K' HK => ?_)
  go_simp
  refine HK.out _ _ ⟨.inl (by decide), ?_⟩
  clear HK K'
  refine wpAnyU_done (by kernel_rfl) ?_ _
  have hb3 : Below w.heap.size w (((w2.setCell ⟨w.heap.size, 4, none⟩ (.slice A1 rows1.length p1)).setCell ⟨w.heap.size, 6, none⟩ (.slice A2 js.length p2)).setCell ⟨w.heap.size, 7, none⟩ (.slice none 0 0)) := (((HB.out.trans (HB12.out.mono (Nat.le_of_lt hzz))).setCell (Nat.le_refl _) _).setCell (Nat.le_refl _) _).setCell (Nat.le_refl _) _
  have q1 : (((w2.setCell ⟨w.heap.size, 4, none⟩ (.slice A1 rows1.length p1)).setCell ⟨w.heap.size, 6, none⟩ (.slice A2 js.length p2)).setCell ⟨w.heap.size, 7, none⟩ (.slice none 0 0)).heap[w.heap.size]? = some (.cells #[.int .i64 st, .int .i64 0, .int .i64 0, .slice none 0 0, .slice A1 rows1.length p1, .int .i64 0, .slice A2 js.length p2, .slice none 0 0, .int .i64 0, .slice none 0 0, .slice none 0 0, .slice A'' n'' p''] 44 (0, 0)) := (set_at (set_at (set_at HQ1.out _) _) _).trans rfl
  have q2 : (((w2.setCell ⟨w.heap.size, 4, none⟩ (.slice A1 rows1.length p1)).setCell ⟨w.heap.size, 6, none⟩ (.slice A2 js.length p2)).setCell ⟨w.heap.size, 7, none⟩ (.slice none 0 0)).heap[w.heap.size + 1]? = some (.cells #[.int .i64 0, .int .i64 0, .int .i64 0, .slice none 0 0, .slice none 0 0, .int .i64 0, .slice none 0 0, .slice none 0 0, .int .i64 0, .slice none 0 0, .slice none 0 0, .slice none 0 0] 44 (0, 0)) := (set_ne _ (show w.heap.size + 1 ≠ w.heap.size by omega)).trans ((set_ne _ (show w.heap.size + 1 ≠ w.heap.size by omega)).trans ((set_ne _ (show w.heap.size + 1 ≠ w.heap.size by omega)).trans HQ2.out))
  have hw2 : w.heap.size < w.heap.size + 2 := by omega
  have hfr : ROut (((w2.setCell ⟨w.heap.size, 4, none⟩ (.slice A1 rows1.length p1)).setCell ⟨w.heap.size, 6, none⟩ (.slice A2 js.length p2)).setCell ⟨w.heap.size, 7, none⟩ (.slice none 0 0)) (w.heap.size + 2) 50 9 (.slice A1 rows1.length p1) rows1 := (((ROut.low (HR1.out.below HB2.out) (show w.heap.size + 2 ≤ W.heap.size by have := HZ.out; omega)).set hw2 _ _).set hw2 _ _).set hw2 _ _
  have hfs : FrOuts (((w2.setCell ⟨w.heap.size, 4, none⟩ (.slice A1 rows1.length p1)).setCell ⟨w.heap.size, 6, none⟩ (.slice A2 js.length p2)).setCell ⟨w.heap.size, 7, none⟩ (.slice none 0 0)) (w.heap.size + 2) Fs rows1 := (((FrOuts.low (HF1.out.below HB2.out) (show w.heap.size + 2 ≤ W.heap.size by have := HZ.out; omega)).set hw2 _ _).set hw2 _ _).set hw2 _ _
  have hjs : ROut (((w2.setCell ⟨w.heap.size, 4, none⟩ (.slice A1 rows1.length p1)).setCell ⟨w.heap.size, 6, none⟩ (.slice A2 js.length p2)).setCell ⟨w.heap.size, 7, none⟩ (.slice none 0 0)) (w.heap.size + 2) 69 8 (.slice A2 js.length p2) (js.map JobD.row) := (((ROut.low HR2.out (show w.heap.size + 2 ≤ w1.heap.size by have := HB1.out.size; have := HZ.out; omega)).set hw2 _ _).set hw2 _ _).set hw2 _ _
  have hsz : w.heap.size + 2 ≤ (((w2.setCell ⟨w.heap.size, 4, none⟩ (.slice A1 rows1.length p1)).setCell ⟨w.heap.size, 6, none⟩ (.slice A2 js.length p2)).setCell ⟨w.heap.size, 7, none⟩ (.slice none 0 0)).heap.size := by have := HB12.out.size; have := HZ.out; simp; omega
  have HB3 := hid hb3
  have HFr := hid hfr
  have HFs := hid hfs
  have HJs := hid hjs
  have HQ2' := hid q2
  have HQ1' := hid q1
  have HSZ := hid hsz
  clear hb3 q1 q2 hfr hfs hjs hsz e4 e6 e7 k4 k6 k7 hS c4 c6 c7 HQ1 HQ2 HB12 HB2 HB1 HR1 HR2 HF1
  go_upto_region 2 with fail
  generalize (((w2.setCell ⟨w.heap.size, 4, none⟩ (.slice A1 rows1.length p1)).setCell ⟨w.heap.size, 6, none⟩ (.slice A2 js.length p2)).setCell ⟨w.heap.size, 7, none⟩ (.slice none 0 0)) = W3 at HB3 HFr HFs HJs HQ1' HQ2' HSZ ⊢
  have c9 := (cell_of_row _ _ 9 _ _ _ HQ1'.out).trans (b := some (Value.slice none 0 0)) rfl
  have c10 := (cell_of_row _ _ 10 _ _ _ HQ1'.out).trans (b := some (Value.slice none 0 0)) rfl
  have c11 := (cell_of_row _ _ 11 _ _ _ HQ1'.out).trans (b := some (Value.slice A'' n'' p'')) rfl
  refine wp_region_until [10, 11, 12, 13, 14] (S := (fun w' => w'.cell? ⟨w.heap.size, 9, none⟩ = some (.slice none 0 0) ∧ w'.cell? ⟨w.heap.size, 10, none⟩ = some (.slice none 0 0) ∧ w'.cell? ⟨w.heap.size, 11, none⟩ = some (.slice A'' n'' p''))) (by kernel_rfl) ?_ ?_
  · exact ⟨c9, c10, c11⟩
  intro hS
  refine wpAnyU_take (i := 0) (v := (.pointer (some ⟨w.heap.size, 9, none⟩))) rfl (by kernel_rfl) (fun _ _ _ h => h) (leads_of [[10], [11], [12], [13], [14]] (by kernel_rfl)) (by kernel_rfl) (by kernel_rfl) (by kernel_rfl) (Or.inl ⟨by rfl, ?_⟩) hS ?_
  · intro w' hS'
    obtain ⟨s0, s1, s2⟩ := hS'
    go_simp
  change wpAnyU _ _ _ _ _ _ _ _ (Act.put _ (some 15) _) _
  simp only [Act.put, List.setIfInBounds_toArray, List.set_cons_succ, List.set_cons_zero]
  refine wpAnyU_take (i := 1) (v := (.slice none 0 0)) rfl (by kernel_rfl) (fun _ _ _ h => h) (leads_of [[10], [11], [12], [13], [14]] (by kernel_rfl)) (by kernel_rfl) (by kernel_rfl) (by kernel_rfl) (Or.inl ⟨by rfl, ?_⟩) hS ?_
  · intro w' hS'
    obtain ⟨s0, s1, s2⟩ := hS'
    go_simp
  change wpAnyU _ _ _ _ _ _ _ _ (Act.put _ (some 16) _) _
  simp only [Act.put, List.setIfInBounds_toArray, List.set_cons_succ, List.set_cons_zero]
  refine wpAnyU_take (i := 3) (v := (.pointer (some ⟨w.heap.size, 10, none⟩))) rfl (by kernel_rfl) (fun _ _ _ h => h) (leads_of [[10], [11], [12], [13], [14]] (by kernel_rfl)) (by kernel_rfl) (by kernel_rfl) (by kernel_rfl) (Or.inl ⟨by rfl, ?_⟩) hS ?_
  · intro w' hS'
    obtain ⟨s0, s1, s2⟩ := hS'
    go_simp
  change wpAnyU _ _ _ _ _ _ _ _ (Act.put _ (some 18) _) _
  simp only [Act.put, List.setIfInBounds_toArray, List.set_cons_succ, List.set_cons_zero]
  refine wpAnyU_take (i := 4) (v := (.slice none 0 0)) rfl (by kernel_rfl) (fun _ _ _ h => h) (leads_of [[10], [11], [12], [13], [14]] (by kernel_rfl)) (by kernel_rfl) (by kernel_rfl) (by kernel_rfl) (Or.inl ⟨by rfl, ?_⟩) hS ?_
  · intro w' hS'
    obtain ⟨s0, s1, s2⟩ := hS'
    go_simp
  change wpAnyU _ _ _ _ _ _ _ _ (Act.put _ (some 19) _) _
  simp only [Act.put, List.setIfInBounds_toArray, List.set_cons_succ, List.set_cons_zero]
  refine wpAnyU_take (i := 6) (v := (.pointer (some ⟨w.heap.size, 11, none⟩))) rfl (by kernel_rfl) (fun _ _ _ h => h) (leads_of [[10], [11], [12], [13], [14]] (by kernel_rfl)) (by kernel_rfl) (by kernel_rfl) (by kernel_rfl) (Or.inl ⟨by rfl, ?_⟩) hS ?_
  · intro w' hS'
    obtain ⟨s0, s1, s2⟩ := hS'
    go_simp
  change wpAnyU _ _ _ _ _ _ _ _ (Act.put _ (some 21) _) _
  simp only [Act.put, List.setIfInBounds_toArray, List.set_cons_succ, List.set_cons_zero]
  refine wpAnyU_take (i := 7) (v := (.slice A'' n'' p'')) rfl (by kernel_rfl) (fun _ _ _ h => h) (leads_of [[10], [11], [12], [13], [14]] (by kernel_rfl)) (by kernel_rfl) (by kernel_rfl) (by kernel_rfl) (Or.inl ⟨by rfl, ?_⟩) hS ?_
  · intro w' hS'
    obtain ⟨s0, s1, s2⟩ := hS'
    go_simp
  change wpAnyU _ _ _ _ _ _ _ _ (Act.put _ (some 22) _) _
  simp only [Act.put, List.setIfInBounds_toArray, List.set_cons_succ, List.set_cons_zero]
  refine wpAnyU_all (rs := [2]) (by kernel_rfl) (by simp) ?_
  intro j hj
  obtain rfl := List.mem_singleton.1 hj
  clear hj
  refine wpOp_shut rfl (fun K' HK => ?_)
  refine step_call rfl (f := 92) rfl Try.func92 (by kernel_rfl) rfl #[(.slice none 0 0), (.func (.func 93) #[] #[])] (by simp only [List.map_toArray, List.map_cons, List.map_nil]; rfl) ?_
  refine (copiedInt_nil _).mono ?_
  rintro e w4 ⟨rfl, hw4⟩
  subst w4
  refine ⟨_, rfl, ?_⟩
  refine HK.out _ _ ⟨.inr hS, ?_⟩
  clear HK K'
  change wpAnyU _ _ _ _ _ _ _ _ (Act.put _ (some 17) _) _
  simp only [Act.put, List.setIfInBounds_toArray, List.set_cons_succ, List.set_cons_zero]
  refine wpAnyU_take (i := 9) (v := (.pointer (some ⟨w.heap.size, 9, none⟩))) rfl (by kernel_rfl) (fun _ _ _ h => h) (leads_of [[10], [11], [12], [13], [14]] (by kernel_rfl)) (by kernel_rfl) (by kernel_rfl) (by kernel_rfl) (Or.inl ⟨by rfl, ?_⟩) hS ?_
  · intro w' hS'
    obtain ⟨s0, s1, s2⟩ := hS'
    go_simp
  change wpAnyU _ _ _ _ _ _ _ _ (Act.put _ (some 24) _) _
  simp only [Act.put, List.setIfInBounds_toArray, List.set_cons_succ, List.set_cons_zero]
  refine wpAnyU_all (rs := [5]) (by kernel_rfl) (by simp) ?_
  intro j hj
  obtain rfl := List.mem_singleton.1 hj
  clear hj
  refine wpOp_shut rfl (fun K' HK => ?_)
  refine step_call rfl (f := 94) rfl Try.func94 (by kernel_rfl) rfl #[(.slice none 0 0), (.func (.func 95) #[] #[])] (by simp only [List.map_toArray, List.map_cons, List.map_nil]; rfl) ?_
  refine (copiedVal_nil _).mono ?_
  rintro e w4 ⟨rfl, hw4⟩
  subst w4
  refine ⟨_, rfl, ?_⟩
  refine HK.out _ _ ⟨.inr hS, ?_⟩
  clear HK K'
  change wpAnyU _ _ _ _ _ _ _ _ (Act.put _ (some 20) _) _
  simp only [Act.put, List.setIfInBounds_toArray, List.set_cons_succ, List.set_cons_zero]
  refine wpAnyU_all (rs := [8]) (by kernel_rfl) (by simp) ?_
  intro j hj
  obtain rfl := List.mem_singleton.1 hj
  clear hj
  refine wpOp_shut rfl (fun K' HK => ?_)
  refine step_call rfl (f := 96) rfl Try.func96 (by kernel_rfl) rfl #[(.slice A'' n'' p''), (.func (.func 97) #[] #[])] (by simp only [List.map_toArray, List.map_cons, List.map_nil]; rfl) ?_
  refine (copiedStr_c (B := B) (xs := outs) (HO.out.move (Fr.of_below HB3.out.drew)) hn'').mono ?_
  rintro e w4 ⟨v', rfl, hb4', hr4⟩
  refine ⟨_, rfl, ?_⟩
  obtain ⟨A3, p3, e4⟩ := hr4.slice
  rw [List.length_map] at e4
  subst e4
  have HB4 := hid (below_drew hb4')
  have HR4 := hid hr4
  clear hb4' hr4
  refine HK.out _ _ ⟨.inr ?_, ?_⟩
  · exact ⟨keepc HB4.out c9, keepc HB4.out c10, keepc HB4.out c11⟩
  clear HK K'
  have hS := And.intro (keepc HB4.out c9) (And.intro (keepc HB4.out c10) (keepc HB4.out c11))
  change wpAnyU _ _ _ _ _ _ _ _ (Act.put _ (some 23) _) _
  simp only [Act.put, List.setIfInBounds_toArray, List.set_cons_succ, List.set_cons_zero]
  have hz3 : w.heap.size < W3.heap.size := by have := HSZ.out; omega
  have q1 := (HB4.out.block w.heap.size hz3).trans HQ1'.out
  have q2 := (HB4.out.block (w.heap.size + 1) (by have := HSZ.out; omega)).trans HQ2'.out
  have e9 := (cell_of_row _ _ 9 _ _ _ q1).trans (b := some (Value.slice none 0 0)) rfl
  have e10 := (cell_of_row _ _ 10 _ _ _ q1).trans (b := some (Value.slice none 0 0)) rfl
  have e11 := (cell_of_row _ _ 11 _ _ _ q1).trans (b := some (Value.slice A'' n'' p'')) rfl
  have k9 : w4.frozen? ⟨w.heap.size, 9, none⟩ = false := by simp [World.frozen?, q1]
  have k10 : w4.frozen? ⟨w.heap.size, 10, none⟩ = false := by simp [World.frozen?, q1]
  have k11 : w4.frozen? ⟨w.heap.size, 11, none⟩ = false := by simp [World.frozen?, q1]
  have HP1 := hid q1
  have HP2 := hid q2
  clear q1 q2 hS
  refine wpAnyU_all (rs := [10]) (by kernel_rfl) (by simp) ?_
  intro j hj
  obtain rfl := List.mem_singleton.1 hj
  clear hj
  refine wpOp_shut rfl (fun K' HK => ?_)
  go_simp
  refine HK.out _ _ ⟨.inl (by decide), ?_⟩
  clear HK K'
  refine wpAnyU_all (rs := [11]) (by kernel_rfl) (by simp) ?_
  intro j hj
  obtain rfl := List.mem_singleton.1 hj
  clear hj
  refine wpOp_shut rfl (fun K' HK => ?_)
  go_simp
  refine HK.out _ _ ⟨.inl (by decide), ?_⟩
  clear HK K'
  try simp only [Act.put, List.setIfInBounds_toArray, List.set_cons_succ, List.set_cons_zero]
  refine wpAnyU_all (rs := [12]) (by kernel_rfl) (by simp) ?_
  intro j hj
  obtain rfl := List.mem_singleton.1 hj
  clear hj
  refine wpOp_shut rfl (fun K' HK => ?_)
  go_simp
  refine HK.out _ _ ⟨.inl (by decide), ?_⟩
  clear HK K'
  refine wpAnyU_all (rs := [13]) (by kernel_rfl) (by simp) ?_
  intro j hj
  obtain rfl := List.mem_singleton.1 hj
  clear hj
  refine wpOp_shut rfl (fun K' HK => ?_)
  go_simp
  refine HK.out _ _ ⟨.inl (by decide), ?_⟩
  clear HK K'
  try simp only [Act.put, List.setIfInBounds_toArray, List.set_cons_succ, List.set_cons_zero]
  refine wpAnyU_all (rs := [14]) (by kernel_rfl) (by simp) ?_
  intro j hj
  obtain rfl := List.mem_singleton.1 hj
  clear hj
  refine wpOp_shut rfl (fun K' HK => ?_)
  go_simp
  refine HK.out _ _ ⟨.inl (by decide), ?_⟩
  clear HK K'
  refine wpAnyU_done (by kernel_rfl) ?_ _
  have hb5 : Below w.heap.size w (((w4.setCell ⟨w.heap.size, 9, none⟩ (.slice none 0 0)).setCell ⟨w.heap.size, 10, none⟩ (.slice none 0 0)).setCell ⟨w.heap.size, 11, none⟩ (.slice A3 outs.length p3)) := (((HB3.out.trans (HB4.out.mono (by have := HSZ.out; omega))).setCell (Nat.le_refl _) _).setCell (Nat.le_refl _) _).setCell (Nat.le_refl _) _
  have q1 : (((w4.setCell ⟨w.heap.size, 9, none⟩ (.slice none 0 0)).setCell ⟨w.heap.size, 10, none⟩ (.slice none 0 0)).setCell ⟨w.heap.size, 11, none⟩ (.slice A3 outs.length p3)).heap[w.heap.size]? = some (.cells #[.int .i64 st, .int .i64 0, .int .i64 0, .slice none 0 0, .slice A1 rows1.length p1, .int .i64 0, .slice A2 js.length p2, .slice none 0 0, .int .i64 0, .slice none 0 0, .slice none 0 0, .slice A3 outs.length p3] 44 (0, 0)) := (set_at (set_at (set_at HP1.out _) _) _).trans rfl
  have q2 : (((w4.setCell ⟨w.heap.size, 9, none⟩ (.slice none 0 0)).setCell ⟨w.heap.size, 10, none⟩ (.slice none 0 0)).setCell ⟨w.heap.size, 11, none⟩ (.slice A3 outs.length p3)).heap[w.heap.size + 1]? = some (.cells #[.int .i64 0, .int .i64 0, .int .i64 0, .slice none 0 0, .slice none 0 0, .int .i64 0, .slice none 0 0, .slice none 0 0, .int .i64 0, .slice none 0 0, .slice none 0 0, .slice none 0 0] 44 (0, 0)) := (set_ne _ (show w.heap.size + 1 ≠ w.heap.size by omega)).trans ((set_ne _ (show w.heap.size + 1 ≠ w.heap.size by omega)).trans ((set_ne _ (show w.heap.size + 1 ≠ w.heap.size by omega)).trans HP2.out))
  have hw2 : w.heap.size < w.heap.size + 2 := by omega
  have hfr : ROut (((w4.setCell ⟨w.heap.size, 9, none⟩ (.slice none 0 0)).setCell ⟨w.heap.size, 10, none⟩ (.slice none 0 0)).setCell ⟨w.heap.size, 11, none⟩ (.slice A3 outs.length p3)) (w.heap.size + 2) 50 9 (.slice A1 rows1.length p1) rows1 := (((HFr.out.below HB4.out).set hw2 _ _).set hw2 _ _).set hw2 _ _
  have hfs : FrOuts (((w4.setCell ⟨w.heap.size, 9, none⟩ (.slice none 0 0)).setCell ⟨w.heap.size, 10, none⟩ (.slice none 0 0)).setCell ⟨w.heap.size, 11, none⟩ (.slice A3 outs.length p3)) (w.heap.size + 2) Fs rows1 := (((HFs.out.below HB4.out).set hw2 _ _).set hw2 _ _).set hw2 _ _
  have hjs : ROut (((w4.setCell ⟨w.heap.size, 9, none⟩ (.slice none 0 0)).setCell ⟨w.heap.size, 10, none⟩ (.slice none 0 0)).setCell ⟨w.heap.size, 11, none⟩ (.slice A3 outs.length p3)) (w.heap.size + 2) 69 8 (.slice A2 js.length p2) (js.map JobD.row) := (((HJs.out.below HB4.out).set hw2 _ _).set hw2 _ _).set hw2 _ _
  have hos : ROut (((w4.setCell ⟨w.heap.size, 9, none⟩ (.slice none 0 0)).setCell ⟨w.heap.size, 10, none⟩ (.slice none 0 0)).setCell ⟨w.heap.size, 11, none⟩ (.slice A3 outs.length p3)) (w.heap.size + 2) 9 1 (.slice A3 outs.length p3) (outs.map keyRow) := (((ROut.low HR4.out (show w.heap.size + 2 ≤ W3.heap.size from HSZ.out)).set hw2 _ _).set hw2 _ _).set hw2 _ _
  have HB5 := hid hb5
  have HFr5 := hid hfr
  have HFs5 := hid hfs
  have HJs5 := hid hjs
  have HOs5 := hid hos
  have HQ1 := hid q1
  have HQ2 := hid q2
  clear hb5 q1 q2 hfr hfs hjs hos e9 e10 e11 k9 k10 k11 c9 c10 c11 HP1 HP2 HB3 HFr HFs HJs HQ1' HQ2' HB4 HR4
  go_upto_region 3 with fail
  generalize (((w4.setCell ⟨w.heap.size, 9, none⟩ (.slice none 0 0)).setCell ⟨w.heap.size, 10, none⟩ (.slice none 0 0)).setCell ⟨w.heap.size, 11, none⟩ (.slice A3 outs.length p3)) = W5 at HB5 HFr5 HFs5 HJs5 HOs5 HQ1 HQ2 ⊢
  have a0 := (cell_of_row _ _ 0 _ _ _ HQ1.out).trans (b := some (Value.int .i64 st)) rfl
  have a1 := (cell_of_row _ _ 1 _ _ _ HQ1.out).trans (b := some (Value.int .i64 0)) rfl
  have a2 := (cell_of_row _ _ 2 _ _ _ HQ1.out).trans (b := some (Value.int .i64 0)) rfl
  have a3 := (cell_of_row _ _ 3 _ _ _ HQ1.out).trans (b := some (Value.slice none 0 0)) rfl
  have a4 := (cell_of_row _ _ 4 _ _ _ HQ1.out).trans (b := some (Value.slice A1 rows1.length p1)) rfl
  have a5 := (cell_of_row _ _ 5 _ _ _ HQ1.out).trans (b := some (Value.int .i64 0)) rfl
  have a6 := (cell_of_row _ _ 6 _ _ _ HQ1.out).trans (b := some (Value.slice A2 js.length p2)) rfl
  have a7 := (cell_of_row _ _ 7 _ _ _ HQ1.out).trans (b := some (Value.slice none 0 0)) rfl
  have a8 := (cell_of_row _ _ 8 _ _ _ HQ1.out).trans (b := some (Value.int .i64 0)) rfl
  have a9 := (cell_of_row _ _ 9 _ _ _ HQ1.out).trans (b := some (Value.slice none 0 0)) rfl
  have a10 := (cell_of_row _ _ 10 _ _ _ HQ1.out).trans (b := some (Value.slice none 0 0)) rfl
  have a11 := (cell_of_row _ _ 11 _ _ _ HQ1.out).trans (b := some (Value.slice A3 outs.length p3)) rfl
  have z0 := (cell_of_row _ _ 0 _ _ _ HQ2.out).trans (b := some (Value.int .i64 0)) rfl
  have z1 := (cell_of_row _ _ 1 _ _ _ HQ2.out).trans (b := some (Value.int .i64 0)) rfl
  have z2 := (cell_of_row _ _ 2 _ _ _ HQ2.out).trans (b := some (Value.int .i64 0)) rfl
  have z3 := (cell_of_row _ _ 3 _ _ _ HQ2.out).trans (b := some (Value.slice none 0 0)) rfl
  have z4 := (cell_of_row _ _ 4 _ _ _ HQ2.out).trans (b := some (Value.slice none 0 0)) rfl
  have z5 := (cell_of_row _ _ 5 _ _ _ HQ2.out).trans (b := some (Value.int .i64 0)) rfl
  have z6 := (cell_of_row _ _ 6 _ _ _ HQ2.out).trans (b := some (Value.slice none 0 0)) rfl
  have z7 := (cell_of_row _ _ 7 _ _ _ HQ2.out).trans (b := some (Value.slice none 0 0)) rfl
  have z8 := (cell_of_row _ _ 8 _ _ _ HQ2.out).trans (b := some (Value.int .i64 0)) rfl
  have z9 := (cell_of_row _ _ 9 _ _ _ HQ2.out).trans (b := some (Value.slice none 0 0)) rfl
  have z10 := (cell_of_row _ _ 10 _ _ _ HQ2.out).trans (b := some (Value.slice none 0 0)) rfl
  have z11 := (cell_of_row _ _ 11 _ _ _ HQ2.out).trans (b := some (Value.slice none 0 0)) rfl
  have g0 : W5.frozen? ⟨w.heap.size + 1, 0, none⟩ = false := by simp [World.frozen?, HQ2.out]
  have g1 : W5.frozen? ⟨w.heap.size + 1, 1, none⟩ = false := by simp [World.frozen?, HQ2.out]
  have g2 : W5.frozen? ⟨w.heap.size + 1, 2, none⟩ = false := by simp [World.frozen?, HQ2.out]
  have g3 : W5.frozen? ⟨w.heap.size + 1, 3, none⟩ = false := by simp [World.frozen?, HQ2.out]
  have g4 : W5.frozen? ⟨w.heap.size + 1, 4, none⟩ = false := by simp [World.frozen?, HQ2.out]
  have g5 : W5.frozen? ⟨w.heap.size + 1, 5, none⟩ = false := by simp [World.frozen?, HQ2.out]
  have g6 : W5.frozen? ⟨w.heap.size + 1, 6, none⟩ = false := by simp [World.frozen?, HQ2.out]
  have g7 : W5.frozen? ⟨w.heap.size + 1, 7, none⟩ = false := by simp [World.frozen?, HQ2.out]
  have g8 : W5.frozen? ⟨w.heap.size + 1, 8, none⟩ = false := by simp [World.frozen?, HQ2.out]
  have g9 : W5.frozen? ⟨w.heap.size + 1, 9, none⟩ = false := by simp [World.frozen?, HQ2.out]
  have g10 : W5.frozen? ⟨w.heap.size + 1, 10, none⟩ = false := by simp [World.frozen?, HQ2.out]
  have g11 : W5.frozen? ⟨w.heap.size + 1, 11, none⟩ = false := by simp [World.frozen?, HQ2.out]
  have hw3 : w.heap.size + 1 < w.heap.size + 2 := by omega
  go_wp2_with fail
  refine bodyPost_ret (v := .agg #[.int .i64 st, .int .i64 0, .int .i64 0, .slice none 0 0, .slice A1 rows1.length p1, .int .i64 0, .slice A2 js.length p2, .slice none 0 0, .int .i64 0, .slice none 0 0, .slice none 0 0, .slice A3 outs.length p3]) (by simp [results, Try.results51, go_sem, z0, z1, z2, z3, z4, z5, z6, z7, z8, z9, z10, z11]) rfl ⟨_, _, _, _, _, _, _, _, _, rows1, rfl, ?_, ?_, ?_, ?_, ?_⟩
  · exact ((((((((((((HB5.out).setCell (Nat.le_succ _) _).setCell (Nat.le_succ _) _).setCell (Nat.le_succ _) _).setCell (Nat.le_succ _) _).setCell (Nat.le_succ _) _).setCell (Nat.le_succ _) _).setCell (Nat.le_succ _) _).setCell (Nat.le_succ _) _).setCell (Nat.le_succ _) _).setCell (Nat.le_succ _) _).setCell (Nat.le_succ _) _).setCell (Nat.le_succ _) _
  · exact ((((((((((((HFr5.out).set hw3 _ _).set hw3 _ _).set hw3 _ _).set hw3 _ _).set hw3 _ _).set hw3 _ _).set hw3 _ _).set hw3 _ _).set hw3 _ _).set hw3 _ _).set hw3 _ _).set hw3 _ _
  · exact ((((((((((((HFs5.out).set hw3 _ _).set hw3 _ _).set hw3 _ _).set hw3 _ _).set hw3 _ _).set hw3 _ _).set hw3 _ _).set hw3 _ _).set hw3 _ _).set hw3 _ _).set hw3 _ _).set hw3 _ _
  · exact ((((((((((((HJs5.out).set hw3 _ _).set hw3 _ _).set hw3 _ _).set hw3 _ _).set hw3 _ _).set hw3 _ _).set hw3 _ _).set hw3 _ _).set hw3 _ _).set hw3 _ _).set hw3 _ _).set hw3 _ _
  · exact ((((((((((((HOs5.out).set hw3 _ _).set hw3 _ _).set hw3 _ _).set hw3 _ _).set hw3 _ _).set hw3 _ _).set hw3 _ _).set hw3 _ _).set hw3 _ _).set hw3 _ _).set hw3 _ _).set hw3 _ _
end Go.Proofs.Ytdgpblhmfkpblaa.Pg
