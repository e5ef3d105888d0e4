/- Two cells, and two rows of cells, that read the same. -/
import Derived.Test.YtljbdmmidajmdaaPg34
namespace Go.Proofs.Ytljbdmmidajmdaa.Pg
open Go.RowKit
attribute [local go_sem ↓] Go.wp_at_zero Go.wp_at_succ

theorem keepc {w W : World} (hb : Below w.heap.size w W) {a : Addr} {v : Value} (h : w.cell? a = some v) : W.cell? a = some v := (hb.cell (block_lt_of_cell h)).trans h

set_option maxHeartbeats 800000 in
set_option maxRecDepth 100000 in
theorem sameCell_c {B : Nat} {w : World} {c : CD} {A1 A2 A3 A4 : Option Addr} {n1 p1 n2 p2 n3 p3 n4 p4 : Nat} (h : Reads B w c (.slice A1 n1 p1) (.slice A2 n2 p2)) (h' : Reads B w c (.slice A3 n3 p3) (.slice A4 n4 p4)) :
    Calls Try.prog 48 #[.agg #[.int .i64 c.kind, .int .i64 c.a, .int .i64 c.b, .slice A1 n1 p1, .slice A2 n2 p2], .agg #[.int .i64 c.kind, .int .i64 c.a, .int .i64 c.b, .slice A3 n3 p3, .slice A4 n4 p4]] w
      fun e w' => e = .returned (.bool true) ∧ Below w.heap.size w w' := by
  have H := hid h
  have H' := hid h'
  clear h h'
  have hb : Below w.heap.size w ((w.alloc (.cells #[.int .i64 c.kind, .int .i64 c.a, .int .i64 c.b, .slice A1 n1 p1, .slice A2 n2 p2] 31)).alloc (.cells #[.int .i64 c.kind, .int .i64 c.a, .int .i64 c.b, .slice A3 n3 p3, .slice A4 n4 p4] 31)) :=
    ((Below.refl _ _).alloc (Nat.le_refl _) _).alloc (by simp) _
  have r1 : ((w.alloc (.cells #[.int .i64 c.kind, .int .i64 c.a, .int .i64 c.b, .slice A1 n1 p1, .slice A2 n2 p2] 31)).alloc (.cells #[.int .i64 c.kind, .int .i64 c.a, .int .i64 c.b, .slice A3 n3 p3, .slice A4 n4 p4] 31)).heap[w.heap.size]? = some (.cells #[.int .i64 c.kind, .int .i64 c.a, .int .i64 c.b, .slice A1 n1 p1, .slice A2 n2 p2] 31 (0, 0)) := by
    rw [heap_alloc_old _ _ (by simp), heap_alloc_new]
  have r2 := heap_alloc_new (w.alloc (.cells #[.int .i64 c.kind, .int .i64 c.a, .int .i64 c.b, .slice A1 n1 p1, .slice A2 n2 p2] 31)) (.cells #[.int .i64 c.kind, .int .i64 c.a, .int .i64 c.b, .slice A3 n3 p3, .slice A4 n4 p4] 31)
  rw [show (w.alloc (.cells #[.int .i64 c.kind, .int .i64 c.a, .int .i64 c.b, .slice A1 n1 p1, .slice A2 n2 p2] 31)).heap.size = w.heap.size + 1 by simp] at r2
  have q1 := cell_of_row _ _ 4 _ _ _ r1
  have q2 := cell_of_row _ _ 4 _ _ _ r2
  have HB := hid hb
  have HQ := hid (And.intro q1 q2)
  clear hb r1 r2 q1 q2
  go_enter Try.func48, Try.ntmps48
  go_wp2_with fail
  refine (sameTexts_c (H.out.move (Fr.of_below HB.out)).k (H'.out.move (Fr.of_below HB.out)).k).mono ?_
  generalize ((w.alloc (.cells #[.int .i64 c.kind, .int .i64 c.a, .int .i64 c.b, .slice A1 n1 p1, .slice A2 n2 p2] 31)).alloc (.cells #[.int .i64 c.kind, .int .i64 c.a, .int .i64 c.b, .slice A3 n3 p3, .slice A4 n4 p4] 31)) = W at HB HQ ⊢
  rintro e w2 ⟨rfl, hb2⟩
  have q1 := (hb2.cell (block_lt_of_cell HQ.out.1)).trans HQ.out.1
  have q2 := (hb2.cell (block_lt_of_cell HQ.out.2)).trans HQ.out.2
  have HB2 := hid (HB.out.trans (hb2.mono HB.out.size))
  clear hb2
  go_wp2_with fail
  refine (sameVals_c (H.out.move (Fr.of_below HB2.out)).v (H'.out.move (Fr.of_below HB2.out)).v).mono ?_
  rintro e w3 ⟨rfl, hb3⟩
  have HB3 := hid (HB2.out.trans (hb3.mono HB2.out.size))
  clear hb3 q1 q2
  go_wp2_with fail
  go_ret
  exact ⟨rfl, HB3.out⟩

set_option maxHeartbeats 3200000 in
set_option maxRecDepth 100000 in
theorem sameCells_c {B : Nat} {w : World} {A A' : Option Addr} {n cap n' cap' : Nat} {l : List CD} (hm : n ≤ maxLen) (h : CRow B w A n l) (h' : CRow B w A' n' l) :
    Calls Try.prog 36 #[.slice A n cap, .slice A' n' cap'] w fun e w' => e = .returned (.bool true) ∧ Below w.heap.size w w' := by
  obtain rfl : n = n' := h.len.symm.trans h'.len
  have G := hid h
  have G' := hid h'
  unfold maxLen at hm
  clear h h'
  go_enter Try.func36, Try.ntmps36
  go_wp2_with fail
  go_loopw [5] (fun i wx => ∃ k : Nat, k ≤ n ∧ i = .int .i64 k ∧ Box (Below w.heap.size w wx)) (fun i _ => n - (intOf i).toNat)
  case atStart => exact ⟨0, by omega, rfl, hid (Below.refl _ _)⟩
  case round =>
    obtain ⟨k, hk, rfl, HB⟩ := hrel
    rcases Nat.lt_or_ge k n with hlt | hge
    · have hlt' : (k : Int) < n := by omega
      have hk0 : (0 : Int) ≤ k := by omega
      have hx := List.getElem?_eq_getElem (l := l) (i := k) (by rw [G.out.len]; exact hlt)
      generalize l[k]'(by rw [G.out.len]; exact hlt) = c at hx
      obtain ⟨b, o, rfl, hc⟩ := (G.out.below HB.out).at_ k c hx
      obtain ⟨b', o', rfl, hc'⟩ := (G'.out.below HB.out).at_ k c hx
      obtain ⟨A1, n1, p1, A2, n2, p2, a0, a1, a2, a3, a4, ar⟩ := hc
      obtain ⟨A3, n3, p3, A4, n4, p4, b0, b1, b2, b3, b4, br⟩ := hc'
      have AR := hid (ar.move (Fr.of_below (Below.refl _ _).drew))
      have BR := hid (br.move (Fr.of_below (Below.refl _ _).drew))
      clear ar br hx
      go_wp2_with fail
      go_region_held3 (fun w' => w'.cell? ⟨b, o + k * 5, none⟩ = some (.int .i64 c.kind) ∧ w'.cell? ⟨b, o + k * 5 + 1, none⟩ = some (.int .i64 c.a) ∧ w'.cell? ⟨b, o + k * 5 + 2, none⟩ = some (.int .i64 c.b) ∧ w'.cell? ⟨b, o + k * 5 + 3, none⟩ = some (.slice A1 n1 p1) ∧ w'.cell? ⟨b, o + k * 5 + 4, none⟩ = some (.slice A2 n2 p2) ∧ w'.cell? ⟨b', o' + k * 5, none⟩ = some (.int .i64 c.kind) ∧ w'.cell? ⟨b', o' + k * 5 + 1, none⟩ = some (.int .i64 c.a) ∧ w'.cell? ⟨b', o' + k * 5 + 2, none⟩ = some (.int .i64 c.b) ∧ w'.cell? ⟨b', o' + k * 5 + 3, none⟩ = some (.slice A3 n3 p3) ∧ w'.cell? ⟨b', o' + k * 5 + 4, none⟩ = some (.slice A4 n4 p4)) (go_keep)
        (first | (go_at_call 48; refine (sameCell_c AR.out BR.out).mono ?_; rintro e w2 ⟨rfl, hb2'⟩; have hb2 := below_drew hb2'; clear hb2'; have HB2 := hid (HB.out.trans (hb2.mono HB.out.size)); have a0' := keepc hb2 a0; have a1' := keepc hb2 a1; have a2' := keepc hb2 a2; have a3' := keepc hb2 a3; have a4' := keepc hb2 a4; have b0' := keepc hb2 b0; have b1' := keepc hb2 b1; have b2' := keepc hb2 b2; have b3' := keepc hb2 b3; have b4' := keepc hb2 b4; clear hb2))
      go_wp2_with fail
      clear a0 a1 a2 a3 a4 b0 b1 b2 b3 b4 a0' a1' a2' a3' a4' b0' b1' b2' b3' b4'
      go_roundw
      case rel => exact ⟨k + 1, by omega, by go_num, HB2⟩
      case measure => simp [intOf]; omega
    · obtain rfl : k = n := by omega
      go_wp2_with fail
      go_ret
      exact ⟨rfl, HB.out⟩
end Go.Proofs.Ytljbdmmidajmdaa.Pg
