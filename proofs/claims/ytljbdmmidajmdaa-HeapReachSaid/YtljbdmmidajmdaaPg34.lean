/- Rows that hold the same are told to be the same. -/
import Derived.Test.YtljbdmmidajmdaaPg33
import Derived.Deep.RegionHeld3
import Derived.Deep.DrawnRows
namespace Go.Proofs.Ytljbdmmidajmdaa.Pg
open Go.RowKit
attribute [local go_sem ↓] Go.wp_at_zero Go.wp_at_succ

theorem RowR.key_at {B : Nat} {w : World} {A : Option Addr} {n cap : Nat} {xs : List ByteArray} (h : RowR B w 1 (.slice A n cap) (xs.map keyRow)) :
    xs.length = n ∧ n ≤ maxLen ∧ (0 < n → ∃ b o, A = some ⟨b, o, none⟩ ∧ ∀ j, j < n → ∃ s, w.cell? ⟨b, o + j, none⟩ = some (.string s) ∧ xs[j]? = some s) := by
  obtain ⟨A', n', cap', e, hl, h1, h2, _, h3⟩ := h
  injection e with e1 e2 e3
  subst e1 e2 e3
  rw [List.length_map] at hl
  refine ⟨hl, Nat.le_trans h1 h2, fun hn => ?_⟩
  obtain ⟨b, o, e, _, hc⟩ := h3 hn
  refine ⟨b, o, e, fun j hj => ?_⟩
  have hx : xs[j]? = some xs[j] := List.getElem?_eq_getElem (by omega)
  have := (hc j (keyRow xs[j]) (by rw [List.getElem?_map, hx]; rfl)).2 0 _ rfl
  refine ⟨xs[j], ?_, hx⟩
  rwa [show o + (j * 1 + 0) = o + j by omega] at this

set_option maxHeartbeats 800000 in
set_option maxRecDepth 100000 in
theorem sameTexts_c {B : Nat} {w : World} {A A' : Option Addr} {n cap n' cap' : Nat} {xs : List ByteArray} (h : RowR B w 1 (.slice A n cap) (xs.map keyRow)) (h' : RowR B w 1 (.slice A' n' cap') (xs.map keyRow)) :
    Calls Try.prog 61 #[.slice A n cap, .slice A' n' cap'] w fun e w' => e = .returned (.bool true) ∧ Below w.heap.size w w' := by
  obtain ⟨l1, hm, g⟩ := h.key_at
  obtain ⟨l2, _, g'⟩ := h'.key_at
  obtain rfl : n = n' := l1.symm.trans l2
  have G := hid g
  have G' := hid g'
  unfold maxLen at hm
  clear h h' g g' l1 l2
  go_enter Try.func61, Try.ntmps61
  go_wp2_with fail
  go_loopw [5] (fun i wx => ∃ k : Nat, k ≤ n ∧ i = .int .i64 k ∧ Box (Below w.heap.size w wx)) (fun i _ => n - (intOf i).toNat)
  case atStart => exact ⟨0, by omega, rfl, hid (Below.refl _ _)⟩
  case round =>
    obtain ⟨k, hk, rfl, HB⟩ := hrel
    rcases Nat.lt_or_ge k n with hlt | hge
    · have hlt' : (k : Int) < n := by omega
      have hk0 : (0 : Int) ≤ k := by omega
      obtain ⟨b, o, rfl, hc⟩ := G.out (by omega)
      obtain ⟨b', o', rfl, hc'⟩ := G'.out (by omega)
      obtain ⟨s, hs, hx⟩ := hc k hlt
      obtain ⟨s', hs', hx'⟩ := hc' k hlt
      obtain rfl : s = s' := Option.some.inj (hx.symm.trans hx')
      have q1 := (HB.out.cell (p := ⟨b, o + k, none⟩) (block_lt_of_cell hs)).trans hs
      have q2 := (HB.out.cell (p := ⟨b', o' + k, none⟩) (block_lt_of_cell hs')).trans hs'
      clear hc hc' hs hs' hx hx'
      go_wp2_with fail
      go_region_held3 (fun w' => w'.cell? ⟨b, o + k, none⟩ = some (.string s) ∧ w'.cell? ⟨b', o' + k, none⟩ = some (.string s)) (go_keep) (fail)
      go_wp2_with fail
      clear q1 q2
      go_roundw
      case rel => exact ⟨k + 1, by omega, by go_num, hid HB.out.drew⟩
      case measure => simp [intOf]; omega
    · obtain rfl : k = n := by omega
      go_wp2_with fail
      go_ret
      exact ⟨rfl, HB.out⟩
theorem RowR.val_at {B : Nat} {w : World} {A : Option Addr} {n cap : Nat} {xs : List VD} (h : RowR B w 3 (.slice A n cap) (xs.map VD.row)) :
    xs.length = n ∧ n ≤ maxLen ∧ (0 < n → ∃ b o, A = some ⟨b, o, none⟩ ∧ ∀ j, j < n → ∃ s : VD, w.cell? ⟨b, o + j * 3, none⟩ = some (.int .i64 s.kind) ∧ w.cell? ⟨b, o + j * 3 + 1, none⟩ = some (.int .i64 s.n) ∧ w.cell? ⟨b, o + j * 3 + 2, none⟩ = some (.string s.s) ∧ xs[j]? = some s) := by
  obtain ⟨A', n', cap', e, hl, h1, h2, _, h3⟩ := h
  injection e with e1 e2 e3
  subst e1 e2 e3
  rw [List.length_map] at hl
  refine ⟨hl, Nat.le_trans h1 h2, fun hn => ?_⟩
  obtain ⟨b, o, e, _, hc⟩ := h3 hn
  refine ⟨b, o, e, fun j hj => ?_⟩
  have hx : xs[j]? = some xs[j] := List.getElem?_eq_getElem (by omega)
  have h := (hc j (VD.row xs[j]) (by rw [List.getElem?_map, hx]; rfl)).2
  have h0 := h 0 _ rfl
  have h1 := h 1 _ rfl
  have h2 := h 2 _ rfl
  rw [← Nat.add_assoc] at h0 h1 h2
  exact ⟨xs[j], h0, h1, h2, hx⟩

set_option maxHeartbeats 1600000 in
set_option maxRecDepth 100000 in
theorem sameVals_c {B : Nat} {w : World} {A A' : Option Addr} {n cap n' cap' : Nat} {xs : List VD} (h : RowR B w 3 (.slice A n cap) (xs.map VD.row)) (h' : RowR B w 3 (.slice A' n' cap') (xs.map VD.row)) :
    Calls Try.prog 62 #[.slice A n cap, .slice A' n' cap'] w fun e w' => e = .returned (.bool true) ∧ Below w.heap.size w w' := by
  obtain ⟨l1, hm, g⟩ := h.val_at
  obtain ⟨l2, _, g'⟩ := h'.val_at
  obtain rfl : n = n' := l1.symm.trans l2
  have G := hid g
  have G' := hid g'
  unfold maxLen at hm
  clear h h' g g' l1 l2
  go_enter Try.func62, Try.ntmps62
  go_wp2_with fail
  go_loopw [5] (fun i wx => ∃ k : Nat, k ≤ n ∧ i = .int .i64 k ∧ Box (Below w.heap.size w wx)) (fun i _ => n - (intOf i).toNat)
  case atStart => exact ⟨0, by omega, rfl, hid (Below.refl _ _)⟩
  case round =>
    obtain ⟨k, hk, rfl, HB⟩ := hrel
    rcases Nat.lt_or_ge k n with hlt | hge
    · have hlt' : (k : Int) < n := by omega
      have hk0 : (0 : Int) ≤ k := by omega
      obtain ⟨b, o, rfl, hc⟩ := G.out (by omega)
      obtain ⟨b', o', rfl, hc'⟩ := G'.out (by omega)
      obtain ⟨s, hs, ht, hu, hx⟩ := hc k hlt
      obtain ⟨s', hs', ht', hu', hx'⟩ := hc' k hlt
      obtain rfl : s = s' := Option.some.inj (hx.symm.trans hx')
      have q1 := (HB.out.cell (p := ⟨b, o + k * 3, none⟩) (block_lt_of_cell hs)).trans hs
      have q2 := (HB.out.cell (p := ⟨b, o + k * 3 + 1, none⟩) (block_lt_of_cell ht)).trans ht
      have q3 := (HB.out.cell (p := ⟨b, o + k * 3 + 2, none⟩) (block_lt_of_cell hu)).trans hu
      have q4 := (HB.out.cell (p := ⟨b', o' + k * 3, none⟩) (block_lt_of_cell hs')).trans hs'
      have q5 := (HB.out.cell (p := ⟨b', o' + k * 3 + 1, none⟩) (block_lt_of_cell ht')).trans ht'
      have q6 := (HB.out.cell (p := ⟨b', o' + k * 3 + 2, none⟩) (block_lt_of_cell hu')).trans hu'
      clear hc hc' hs hs' hx hx' ht ht' hu hu'
      go_wp2_with fail
      go_region_held3 (fun w' => w'.cell? ⟨b, o + k * 3, none⟩ = some (.int .i64 s.kind) ∧ w'.cell? ⟨b, o + k * 3 + 1, none⟩ = some (.int .i64 s.n) ∧ w'.cell? ⟨b, o + k * 3 + 2, none⟩ = some (.string s.s) ∧ w'.cell? ⟨b', o' + k * 3, none⟩ = some (.int .i64 s.kind) ∧ w'.cell? ⟨b', o' + k * 3 + 1, none⟩ = some (.int .i64 s.n) ∧ w'.cell? ⟨b', o' + k * 3 + 2, none⟩ = some (.string s.s)) (go_keep) (fail)
      go_wp2_with fail
      clear q1 q2 q3 q4 q5 q6
      go_roundw
      case rel => exact ⟨k + 1, by omega, by go_num, hid HB.out.drew⟩
      case measure => simp [intOf]; omega
    · obtain rfl : k = n := by omega
      go_wp2_with fail
      go_ret
      exact ⟨rfl, HB.out⟩
end Go.Proofs.Ytljbdmmidajmdaa.Pg
