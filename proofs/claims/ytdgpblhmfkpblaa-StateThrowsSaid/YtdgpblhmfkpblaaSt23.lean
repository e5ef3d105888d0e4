/- slices.Equal, at the kinds of rows that a view has. -/
import Derived.Test.YtdgpblhmfkpblaaSt22
namespace Go.Proofs.Ytdgpblhmfkpblaa.Pg
open Go.RowKit

section
variable {B B' : Bd} {w w' : World}
set_option maxHeartbeats 1600000 in
set_option maxRecDepth 100000 in
theorem eqVal_c {xs : List VD} {A A' : Option Addr} {n cap n' cap' : Nat} (h : RowR B w 3 (.slice A n cap) (xs.map VD.row)) (h' : RowR B' w 3 (.slice A' n' cap') (xs.map VD.row)) :
    Calls Try.prog 61 #[.slice A n cap, .slice A' n' cap'] w fun e w' => e = .returned (.bool true) ∧ Below w.heap.size w w' := by
  obtain ⟨hn, hm, hg⟩ := h.get
  obtain ⟨hn', _, hg'⟩ := h'.get
  rw [List.length_map] at hn hn'
  have en : n' = n := by omega
  subst en
  have HG := hid hg
  have HG' := hid hg'
  unfold maxLen at hm
  clear h h' hn' hg hg'
  go_enter Try.func61, Try.ntmps61
  go_wp2_with fail
  go_loopw [13] (fun i wx => ∃ k : Nat, k ≤ n' ∧ i = .int .i64 k ∧ Box (Below w.heap.size w wx)) (fun i _ => n' - (RowKit.intOf i).toNat)
  case atStart => exact ⟨0, by omega, rfl, hid (Below.refl _ _)⟩
  case round =>
    obtain ⟨k, hk, rfl, HB⟩ := hrel
    rcases Nat.lt_or_ge k n' with hlt | hge
    · have hlt' : (k : Int) < (n' : Int) := by omega
      have hx : xs[k]? = some xs[k] := List.getElem?_eq_getElem (by omega)
      generalize xs[k] = x at hx
      have hxr : (xs.map VD.row)[k]? = some x.row := by rw [List.getElem?_map, hx]; rfl
      obtain ⟨b, o, rfl, _, hc⟩ := HG.out k _ hxr
      obtain ⟨b', o', rfl, _, hc'⟩ := HG'.out k _ hxr
      have y0 := carry HB.out (block_lt_of_cell (hc 0 _ rfl)) (hc 0 _ rfl)
      have z0 := carry HB.out (block_lt_of_cell (hc' 0 _ rfl)) (hc' 0 _ rfl)
      have y1 := carry HB.out (block_lt_of_cell (hc 0 _ rfl)) (hc 1 _ rfl)
      have z1 := carry HB.out (block_lt_of_cell (hc' 0 _ rfl)) (hc' 1 _ rfl)
      have y2 := carry HB.out (block_lt_of_cell (hc 0 _ rfl)) (hc 2 _ rfl)
      have z2 := carry HB.out (block_lt_of_cell (hc' 0 _ rfl)) (hc' 2 _ rfl)
      simp only [Nat.add_zero] at y0 z0
      have HB2 := HB
      clear hc hc' hxr hx
      go_wp2_with fail
      go_quiet (fail)
      have HB3 := hid (below_drewN HB2.out nq)
      clear y0 z0 y1 z1 y2 z2
      go_wp2_with fail
      go_roundw
      case rel => exact ⟨k + 1, by omega, by go_num, HB3⟩
      case measure => simp [RowKit.intOf]; omega
    · obtain rfl : k = n' := by omega
      go_wp2_with fail
      go_ret
      exact ⟨rfl, HB.out⟩
set_option maxHeartbeats 1600000 in
set_option maxRecDepth 100000 in
theorem eqStr_c {xs : List ByteArray} {A A' : Option Addr} {n cap n' cap' : Nat} (h : RowR B w 1 (.slice A n cap) (xs.map keyRow)) (h' : RowR B' w 1 (.slice A' n' cap') (xs.map keyRow)) :
    Calls Try.prog 62 #[.slice A n cap, .slice A' n' cap'] w fun e w' => e = .returned (.bool true) ∧ Below w.heap.size w w' := by
  obtain ⟨hn, hm, hg⟩ := h.get
  obtain ⟨hn', _, hg'⟩ := h'.get
  rw [List.length_map] at hn hn'
  have en : n' = n := by omega
  subst en
  have HG := hid hg
  have HG' := hid hg'
  unfold maxLen at hm
  clear h h' hn' hg hg'
  go_enter Try.func62, Try.ntmps62
  go_wp2_with fail
  go_loopw [13] (fun i wx => ∃ k : Nat, k ≤ n' ∧ i = .int .i64 k ∧ Box (Below w.heap.size w wx)) (fun i _ => n' - (RowKit.intOf i).toNat)
  case atStart => exact ⟨0, by omega, rfl, hid (Below.refl _ _)⟩
  case round =>
    obtain ⟨k, hk, rfl, HB⟩ := hrel
    rcases Nat.lt_or_ge k n' with hlt | hge
    · have hlt' : (k : Int) < (n' : Int) := by omega
      have hx : xs[k]? = some xs[k] := List.getElem?_eq_getElem (by omega)
      generalize xs[k] = x at hx
      have hxr : (xs.map keyRow)[k]? = some (keyRow x) := by rw [List.getElem?_map, hx]; rfl
      obtain ⟨b, o, rfl, _, hc⟩ := HG.out k _ hxr
      obtain ⟨b', o', rfl, _, hc'⟩ := HG'.out k _ hxr
      have y0 := carry HB.out (block_lt_of_cell (hc 0 _ rfl)) (hc 0 _ rfl)
      have z0 := carry HB.out (block_lt_of_cell (hc' 0 _ rfl)) (hc' 0 _ rfl)
      simp only [Nat.add_zero, Nat.mul_one] at y0 z0
      have HB2 := HB
      clear hc hc' hxr hx
      go_wp2_with fail
      go_quiet (fail)
      have HB3 := hid (below_drewN HB2.out nq)
      clear y0 z0
      go_wp2_with fail
      go_roundw
      case rel => exact ⟨k + 1, by omega, by go_num, HB3⟩
      case measure => simp [RowKit.intOf]; omega
    · obtain rfl : k = n' := by omega
      go_wp2_with fail
      go_ret
      exact ⟨rfl, HB.out⟩
set_option maxHeartbeats 1600000 in
set_option maxRecDepth 100000 in
theorem eqTry_c {xs : List TrD} {A A' : Option Addr} {n cap n' cap' : Nat} (h : RowR B w 3 (.slice A n cap) (xs.map TrD.row)) (h' : RowR B' w 3 (.slice A' n' cap') (xs.map TrD.row)) :
    Calls Try.prog 98 #[.slice A n cap, .slice A' n' cap'] w fun e w' => e = .returned (.bool true) ∧ Below w.heap.size w w' := by
  obtain ⟨hn, hm, hg⟩ := h.get
  obtain ⟨hn', _, hg'⟩ := h'.get
  rw [List.length_map] at hn hn'
  have en : n' = n := by omega
  subst en
  have HG := hid hg
  have HG' := hid hg'
  unfold maxLen at hm
  clear h h' hn' hg hg'
  go_enter Try.func98, Try.ntmps98
  go_wp2_with fail
  go_loopw [13] (fun i wx => ∃ k : Nat, k ≤ n' ∧ i = .int .i64 k ∧ Box (Below w.heap.size w wx)) (fun i _ => n' - (RowKit.intOf i).toNat)
  case atStart => exact ⟨0, by omega, rfl, hid (Below.refl _ _)⟩
  case round =>
    obtain ⟨k, hk, rfl, HB⟩ := hrel
    rcases Nat.lt_or_ge k n' with hlt | hge
    · have hlt' : (k : Int) < (n' : Int) := by omega
      have hx : xs[k]? = some xs[k] := List.getElem?_eq_getElem (by omega)
      generalize xs[k] = x at hx
      have hxr : (xs.map TrD.row)[k]? = some x.row := by rw [List.getElem?_map, hx]; rfl
      obtain ⟨b, o, rfl, _, hc⟩ := HG.out k _ hxr
      obtain ⟨b', o', rfl, _, hc'⟩ := HG'.out k _ hxr
      have y0 := carry HB.out (block_lt_of_cell (hc 0 _ rfl)) (hc 0 _ rfl)
      have z0 := carry HB.out (block_lt_of_cell (hc' 0 _ rfl)) (hc' 0 _ rfl)
      have y1 := carry HB.out (block_lt_of_cell (hc 0 _ rfl)) (hc 1 _ rfl)
      have z1 := carry HB.out (block_lt_of_cell (hc' 0 _ rfl)) (hc' 1 _ rfl)
      have y2 := carry HB.out (block_lt_of_cell (hc 0 _ rfl)) (hc 2 _ rfl)
      have z2 := carry HB.out (block_lt_of_cell (hc' 0 _ rfl)) (hc' 2 _ rfl)
      simp only [Nat.add_zero] at y0 z0
      have HB2 := HB
      clear hc hc' hxr hx
      go_wp2_with fail
      go_quiet (fail)
      have HB3 := hid (below_drewN HB2.out nq)
      clear y0 z0 y1 z1 y2 z2
      go_wp2_with fail
      go_roundw
      case rel => exact ⟨k + 1, by omega, by go_num, HB3⟩
      case measure => simp [RowKit.intOf]; omega
    · obtain rfl : k = n' := by omega
      go_wp2_with fail
      go_ret
      exact ⟨rfl, HB.out⟩
set_option maxHeartbeats 1600000 in
set_option maxRecDepth 100000 in
theorem eqJob_c {xs : List JobD} {A A' : Option Addr} {n cap n' cap' : Nat} (h : RowR B w 8 (.slice A n cap) (xs.map JobD.row)) (h' : RowR B' w 8 (.slice A' n' cap') (xs.map JobD.row)) :
    Calls Try.prog 58 #[.slice A n cap, .slice A' n' cap'] w fun e w' => e = .returned (.bool true) ∧ Below w.heap.size w w' := by
  obtain ⟨hn, hm, hg⟩ := h.get
  obtain ⟨hn', _, hg'⟩ := h'.get
  rw [List.length_map] at hn hn'
  have en : n' = n := by omega
  subst en
  have HG := hid hg
  have HG' := hid hg'
  unfold maxLen at hm
  clear h h' hn' hg hg'
  go_enter Try.func58, Try.ntmps58
  go_wp2_with fail
  go_loopw [13] (fun i wx => ∃ k : Nat, k ≤ n' ∧ i = .int .i64 k ∧ Box (Below w.heap.size w wx)) (fun i _ => n' - (RowKit.intOf i).toNat)
  case atStart => exact ⟨0, by omega, rfl, hid (Below.refl _ _)⟩
  case round =>
    obtain ⟨k, hk, rfl, HB⟩ := hrel
    rcases Nat.lt_or_ge k n' with hlt | hge
    · have hlt' : (k : Int) < (n' : Int) := by omega
      have hx : xs[k]? = some xs[k] := List.getElem?_eq_getElem (by omega)
      generalize xs[k] = x at hx
      have hxr : (xs.map JobD.row)[k]? = some x.row := by rw [List.getElem?_map, hx]; rfl
      obtain ⟨b, o, rfl, _, hc⟩ := HG.out k _ hxr
      obtain ⟨b', o', rfl, _, hc'⟩ := HG'.out k _ hxr
      have y0 := carry HB.out (block_lt_of_cell (hc 0 _ rfl)) (hc 0 _ rfl)
      have z0 := carry HB.out (block_lt_of_cell (hc' 0 _ rfl)) (hc' 0 _ rfl)
      have y1 := carry HB.out (block_lt_of_cell (hc 0 _ rfl)) (hc 1 _ rfl)
      have z1 := carry HB.out (block_lt_of_cell (hc' 0 _ rfl)) (hc' 1 _ rfl)
      have y2 := carry HB.out (block_lt_of_cell (hc 0 _ rfl)) (hc 2 _ rfl)
      have z2 := carry HB.out (block_lt_of_cell (hc' 0 _ rfl)) (hc' 2 _ rfl)
      have y3 := carry HB.out (block_lt_of_cell (hc 0 _ rfl)) (hc 3 _ rfl)
      have z3 := carry HB.out (block_lt_of_cell (hc' 0 _ rfl)) (hc' 3 _ rfl)
      have y4 := carry HB.out (block_lt_of_cell (hc 0 _ rfl)) (hc 4 _ rfl)
      have z4 := carry HB.out (block_lt_of_cell (hc' 0 _ rfl)) (hc' 4 _ rfl)
      have y5 := carry HB.out (block_lt_of_cell (hc 0 _ rfl)) (hc 5 _ rfl)
      have z5 := carry HB.out (block_lt_of_cell (hc' 0 _ rfl)) (hc' 5 _ rfl)
      have y6 := carry HB.out (block_lt_of_cell (hc 0 _ rfl)) (hc 6 _ rfl)
      have z6 := carry HB.out (block_lt_of_cell (hc' 0 _ rfl)) (hc' 6 _ rfl)
      have y7 := carry HB.out (block_lt_of_cell (hc 0 _ rfl)) (hc 7 _ rfl)
      have z7 := carry HB.out (block_lt_of_cell (hc' 0 _ rfl)) (hc' 7 _ rfl)
      simp only [Nat.add_zero] at y0 z0
      have HB2 := HB
      clear hc hc' hxr hx
      go_wp2_with fail
      go_quiet (fail)
      have HB3 := hid (below_drewN HB2.out nq)
      clear y0 z0 y1 z1 y2 z2 y3 z3 y4 z4 y5 z5 y6 z6 y7 z7
      go_wp2_with fail
      go_roundw
      case rel => exact ⟨k + 1, by omega, by go_num, HB3⟩
      case measure => simp [RowKit.intOf]; omega
    · obtain rfl : k = n' := by omega
      go_wp2_with fail
      go_ret
      exact ⟨rfl, HB.out⟩
set_option maxHeartbeats 400000 in
set_option maxRecDepth 100000 in
theorem eqVal_ne {A A' : Option Addr} {n cap n' cap' : Nat} (h : (n : Int) ≠ (n' : Int)) : Calls Try.prog 61 #[.slice A n cap, .slice A' n' cap'] w fun e w' => e = .returned (.bool false) ∧ w' = w := by
  have e1 : ((n : Int) != (n' : Int)) = true := by simpa using h
  clear h
  go_enter Try.func61, Try.ntmps61
  go_wp2_with fail
  go_ret
  exact ⟨rfl, rfl⟩
set_option maxHeartbeats 400000 in
set_option maxRecDepth 100000 in
theorem eqStr_ne {A A' : Option Addr} {n cap n' cap' : Nat} (h : (n : Int) ≠ (n' : Int)) : Calls Try.prog 62 #[.slice A n cap, .slice A' n' cap'] w fun e w' => e = .returned (.bool false) ∧ w' = w := by
  have e1 : ((n : Int) != (n' : Int)) = true := by simpa using h
  clear h
  go_enter Try.func62, Try.ntmps62
  go_wp2_with fail
  go_ret
  exact ⟨rfl, rfl⟩
set_option maxHeartbeats 400000 in
set_option maxRecDepth 100000 in
theorem eqTry_ne {A A' : Option Addr} {n cap n' cap' : Nat} (h : (n : Int) ≠ (n' : Int)) : Calls Try.prog 98 #[.slice A n cap, .slice A' n' cap'] w fun e w' => e = .returned (.bool false) ∧ w' = w := by
  have e1 : ((n : Int) != (n' : Int)) = true := by simpa using h
  clear h
  go_enter Try.func98, Try.ntmps98
  go_wp2_with fail
  go_ret
  exact ⟨rfl, rfl⟩
set_option maxHeartbeats 400000 in
set_option maxRecDepth 100000 in
theorem eqJob_ne {A A' : Option Addr} {n cap n' cap' : Nat} (h : (n : Int) ≠ (n' : Int)) : Calls Try.prog 58 #[.slice A n cap, .slice A' n' cap'] w fun e w' => e = .returned (.bool false) ∧ w' = w := by
  have e1 : ((n : Int) != (n' : Int)) = true := by simpa using h
  clear h
  go_enter Try.func58, Try.ntmps58
  go_wp2_with fail
  go_ret
  exact ⟨rfl, rfl⟩
set_option maxHeartbeats 400000 in
set_option maxRecDepth 100000 in
theorem eqTimer_ne {A A' : Option Addr} {n cap n' cap' : Nat} (h : (n : Int) ≠ (n' : Int)) : Calls Try.prog 59 #[.slice A n cap, .slice A' n' cap'] w fun e w' => e = .returned (.bool false) ∧ w' = w := by
  have e1 : ((n : Int) != (n' : Int)) = true := by simpa using h
  clear h
  go_enter Try.func59, Try.ntmps59
  go_wp2_with fail
  go_ret
  exact ⟨rfl, rfl⟩
set_option maxHeartbeats 400000 in
set_option maxRecDepth 100000 in
theorem eqInt_ne {A A' : Option Addr} {n cap n' cap' : Nat} (h : (n : Int) ≠ (n' : Int)) : Calls Try.prog 60 #[.slice A n cap, .slice A' n' cap'] w fun e w' => e = .returned (.bool false) ∧ w' = w := by
  have e1 : ((n : Int) != (n' : Int)) = true := by simpa using h
  clear h
  go_enter Try.func60, Try.ntmps60
  go_wp2_with fail
  go_ret
  exact ⟨rfl, rfl⟩
set_option maxHeartbeats 400000 in
set_option maxRecDepth 100000 in
theorem eqTimer_nil : Calls Try.prog 59 #[.slice none 0 0, .slice none 0 0] w fun e w' => e = .returned (.bool true) ∧ w' = w := by
  go_enter Try.func59, Try.ntmps59
  go_wp2_with fail
  go_loopw [13] (fun i wx => i = .int .i64 0 ∧ wx = w) (fun _ _ => 0)
  case atStart => exact ⟨rfl, rfl⟩
  case round =>
    obtain ⟨rfl, rfl⟩ := hrel
    go_wp2_with fail
    go_ret
    exact ⟨rfl, rfl⟩
set_option maxHeartbeats 400000 in
set_option maxRecDepth 100000 in
theorem eqInt_nil : Calls Try.prog 60 #[.slice none 0 0, .slice none 0 0] w fun e w' => e = .returned (.bool true) ∧ w' = w := by
  go_enter Try.func60, Try.ntmps60
  go_wp2_with fail
  go_loopw [13] (fun i wx => i = .int .i64 0 ∧ wx = w) (fun _ _ => 0)
  case atStart => exact ⟨rfl, rfl⟩
  case round =>
    obtain ⟨rfl, rfl⟩ := hrel
    go_wp2_with fail
    go_ret
    exact ⟨rfl, rfl⟩
set_option maxHeartbeats 400000 in
set_option maxRecDepth 100000 in
theorem eqfCell_ne {A A' : Option Addr} {n cap n' cap' : Nat} (h : (n : Int) ≠ (n' : Int)) : Calls Try.prog 54 #[.slice A n cap, .slice A' n' cap', .func (.func 55) #[] #[]] w fun e w' => e = .returned (.bool false) ∧ w' = w := by
  have e1 : ((n : Int) != (n' : Int)) = true := by simpa using h
  clear h
  go_enter Try.func54, Try.ntmps54
  go_wp2_with fail
  go_ret
  exact ⟨rfl, rfl⟩
set_option maxHeartbeats 400000 in
set_option maxRecDepth 100000 in
theorem eqfFrame_ne {A A' : Option Addr} {n cap n' cap' : Nat} (h : (n : Int) ≠ (n' : Int)) : Calls Try.prog 56 #[.slice A n cap, .slice A' n' cap', .func (.func 57) #[] #[]] w fun e w' => e = .returned (.bool false) ∧ w' = w := by
  have e1 : ((n : Int) != (n' : Int)) = true := by simpa using h
  clear h
  go_enter Try.func56, Try.ntmps56
  go_wp2_with fail
  go_ret
  exact ⟨rfl, rfl⟩
end
end Go.Proofs.Ytdgpblhmfkpblaa.Pg
