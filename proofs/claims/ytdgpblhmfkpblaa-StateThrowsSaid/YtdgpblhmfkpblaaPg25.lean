/- Contracts of package heap: Alloc, Store, Load. -/
import Derived.Test.YtdgpblhmfkpblaaPg24
namespace Go.Proofs.Ytdgpblhmfkpblaa.Pg
open Go.RowKit

section
variable {B : Bd} {w w' : World} {D D' : FD} {h b : Nat}

set_option maxHeartbeats 800000 in
set_option maxRecDepth 100000 in
theorem hstore (hH : HOk w h b) {k a0 a1 a2 : Int} {A A' : Option Addr} {n cap n' cap' : Nat} (hk : -9223372036854775807 ≤ k ∧ k ≤ 9223372036854775807) {x : Int} {Q : World → Prop}
    (hN : Calls Try.prog 106 #[.pointer (some ⟨b, 0, none⟩), .int .i64 (k - 1), .agg #[.int .i64 a0, .int .i64 a1, .int .i64 a2, .slice A n cap, .slice A' n' cap']] (w.alloc (.cells #[.int .i64 a0, .int .i64 a1, .int .i64 a2, .slice A n cap, .slice A' n' cap'] 47)).drew fun e w' => e = .returned (.int .i64 x) ∧ Q w') :
    Calls Try.prog 70 #[ptr h, .int .i64 k, .agg #[.int .i64 a0, .int .i64 a1, .int .i64 a2, .slice A n cap, .slice A' n' cap']] w fun e w' => e = .returned (.int .i64 x) ∧ Q w' := by
  have HN := hid hN
  have l0 := hH.lt
  have HH := hid ((hH.below ((Below.refl _ _).alloc (Nat.le_refl _) (.cells #[.int .i64 a0, .int .i64 a1, .int .i64 a2, .slice A n cap, .slice A' n' cap'] 47))))
  have r1 := heap_alloc_new w (.cells #[.int .i64 a0, .int .i64 a1, .int .i64 a2, .slice A n cap, .slice A' n' cap'] 47)
  have c0 := (cell_of_row _ _ 0 _ _ _ r1).trans (b := some (Value.int IntKind.i64 a0)) rfl
  have c1 := (cell_of_row _ _ 1 _ _ _ r1).trans (b := some (Value.int IntKind.i64 a1)) rfl
  have c2 := (cell_of_row _ _ 2 _ _ _ r1).trans (b := some (Value.int IntKind.i64 a2)) rfl
  have c3 := (cell_of_row _ _ 3 _ _ _ r1).trans (b := some (Value.slice A n cap)) rfl
  have c4 := (cell_of_row _ _ 4 _ _ _ r1).trans (b := some (Value.slice A' n' cap')) rfl
  have hw : IntKind.i64.wrap (k - 1) = k - 1 := IntWalk.i64_in _ (by omega)
  clear hN hH r1
  unfold ptr
  go_enter Try.func70, Try.ntmps70
  go_wp2_with fail
  generalize (w.alloc (.cells #[.int .i64 a0, .int .i64 a1, .int .i64 a2, .slice A n cap, .slice A' n' cap'] 47)) = W at HN HH c0 c1 c2 c3 c4 ⊢
  go_region_law (first
    | (refine step_call rfl (f := 72) rfl Try.func72 (by kernel_rfl) rfl #[.pointer (some ⟨h, 0, none⟩)] (by simp only [List.map_toArray, List.map_cons, List.map_nil]; rfl) ?_; refine (book_c (w := W.drew) (h := h) (b := b) HH.out).mono ?_; rintro e w2 ⟨rfl, rfl⟩; refine ⟨_, rfl, ?_⟩)
    | (refine step_call rfl (f := 106) rfl Try.func106 (by kernel_rfl) rfl #[.pointer (some ⟨b, 0, none⟩), .int .i64 (k - 1), .agg #[.int .i64 a0, .int .i64 a1, .int .i64 a2, .slice A n cap, .slice A' n' cap']] (by simp only [List.map_toArray, List.map_cons, List.map_nil]; rfl) ?_; refine HN.out.mono ?_; rintro e w2 ⟨rfl, hq⟩; refine ⟨_, rfl, ?_⟩; have HQ := hid hq; clear hq))
  all_goals (go_wp2; go_ret; exact ⟨rfl, HQ.out⟩)
set_option maxHeartbeats 800000 in
set_option maxRecDepth 100000 in
theorem halloc (hH : HOk w h b) {a0 a1 a2 : Int} {A A' : Option Addr} {n cap n' cap' : Nat} {i : Int} (hi : 0 ≤ i ∧ i ≤ 4611686018427387904) {Q : World → Prop}
    (hN : Calls Try.prog 85 #[.pointer (some ⟨b, 0, none⟩), .agg #[.int .i64 a0, .int .i64 a1, .int .i64 a2, .slice A n cap, .slice A' n' cap']] (w.alloc (.cells #[.int .i64 a0, .int .i64 a1, .int .i64 a2, .slice A n cap, .slice A' n' cap'] 47)).drew fun e w' => e = .returned (.tuple #[.int .i64 i, .int .i64 0]) ∧ Q w') :
    Calls Try.prog 47 #[ptr h, .agg #[.int .i64 a0, .int .i64 a1, .int .i64 a2, .slice A n cap, .slice A' n' cap']] w fun e w' => e = .returned (.tuple #[.int .i64 (i + 1), .int .i64 0]) ∧ Q w' := by
  have HN := hid hN
  have l0 := hH.lt
  have HH := hid ((hH.below ((Below.refl _ _).alloc (Nat.le_refl _) (.cells #[.int .i64 a0, .int .i64 a1, .int .i64 a2, .slice A n cap, .slice A' n' cap'] 47))))
  have r1 := heap_alloc_new w (.cells #[.int .i64 a0, .int .i64 a1, .int .i64 a2, .slice A n cap, .slice A' n' cap'] 47)
  have c0 := (cell_of_row _ _ 0 _ _ _ r1).trans (b := some (Value.int IntKind.i64 a0)) rfl
  have c1 := (cell_of_row _ _ 1 _ _ _ r1).trans (b := some (Value.int IntKind.i64 a1)) rfl
  have c2 := (cell_of_row _ _ 2 _ _ _ r1).trans (b := some (Value.int IntKind.i64 a2)) rfl
  have c3 := (cell_of_row _ _ 3 _ _ _ r1).trans (b := some (Value.slice A n cap)) rfl
  have c4 := (cell_of_row _ _ 4 _ _ _ r1).trans (b := some (Value.slice A' n' cap')) rfl
  clear hN hH r1
  unfold ptr
  go_enter Try.func47, Try.ntmps47
  go_wp2_with fail
  generalize (w.alloc (.cells #[.int .i64 a0, .int .i64 a1, .int .i64 a2, .slice A n cap, .slice A' n' cap'] 47)) = W at HN HH c0 c1 c2 c3 c4 ⊢
  go_region_law (first
    | (refine step_call rfl (f := 72) rfl Try.func72 (by kernel_rfl) rfl #[.pointer (some ⟨h, 0, none⟩)] (by simp only [List.map_toArray, List.map_cons, List.map_nil]; rfl) ?_; refine (book_c (w := W.drew) (h := h) (b := b) HH.out).mono ?_; rintro e w2 ⟨rfl, rfl⟩; refine ⟨_, rfl, ?_⟩)
    | (refine step_call rfl (f := 85) rfl Try.func85 (by kernel_rfl) rfl #[.pointer (some ⟨b, 0, none⟩), .agg #[.int .i64 a0, .int .i64 a1, .int .i64 a2, .slice A n cap, .slice A' n' cap']] (by simp only [List.map_toArray, List.map_cons, List.map_nil]; rfl) ?_; refine HN.out.mono ?_; rintro e w2 ⟨rfl, hq⟩; refine ⟨_, rfl, ?_⟩; have HQ := hid hq; clear hq))
  all_goals (go_wp2; go_ret2; exact ⟨rfl, HQ.out⟩)
set_option maxHeartbeats 800000 in
set_option maxRecDepth 100000 in
theorem halloc_err (hH : HOk w h b) {a0 a1 a2 : Int} {A A' : Option Addr} {n cap n' cap' : Nat} {x : Int} (hx : (x != 0) = true) {Q : World → Prop}
    (hN : Calls Try.prog 85 #[.pointer (some ⟨b, 0, none⟩), .agg #[.int .i64 a0, .int .i64 a1, .int .i64 a2, .slice A n cap, .slice A' n' cap']] (w.alloc (.cells #[.int .i64 a0, .int .i64 a1, .int .i64 a2, .slice A n cap, .slice A' n' cap'] 47)).drew fun e w' => e = .returned (.tuple #[.int .i64 0, .int .i64 x]) ∧ Q w') :
    Calls Try.prog 47 #[ptr h, .agg #[.int .i64 a0, .int .i64 a1, .int .i64 a2, .slice A n cap, .slice A' n' cap']] w fun e w' => e = .returned (.tuple #[.int .i64 0, .int .i64 x]) ∧ Q w' := by
  have HN := hid hN
  have l0 := hH.lt
  have HH := hid ((hH.below ((Below.refl _ _).alloc (Nat.le_refl _) (.cells #[.int .i64 a0, .int .i64 a1, .int .i64 a2, .slice A n cap, .slice A' n' cap'] 47))))
  have r1 := heap_alloc_new w (.cells #[.int .i64 a0, .int .i64 a1, .int .i64 a2, .slice A n cap, .slice A' n' cap'] 47)
  have c0 := (cell_of_row _ _ 0 _ _ _ r1).trans (b := some (Value.int IntKind.i64 a0)) rfl
  have c1 := (cell_of_row _ _ 1 _ _ _ r1).trans (b := some (Value.int IntKind.i64 a1)) rfl
  have c2 := (cell_of_row _ _ 2 _ _ _ r1).trans (b := some (Value.int IntKind.i64 a2)) rfl
  have c3 := (cell_of_row _ _ 3 _ _ _ r1).trans (b := some (Value.slice A n cap)) rfl
  have c4 := (cell_of_row _ _ 4 _ _ _ r1).trans (b := some (Value.slice A' n' cap')) rfl
  clear hN hH r1
  unfold ptr
  go_enter Try.func47, Try.ntmps47
  go_wp2_with fail
  generalize (w.alloc (.cells #[.int .i64 a0, .int .i64 a1, .int .i64 a2, .slice A n cap, .slice A' n' cap'] 47)) = W at HN HH c0 c1 c2 c3 c4 ⊢
  go_region_law (first
    | (refine step_call rfl (f := 72) rfl Try.func72 (by kernel_rfl) rfl #[.pointer (some ⟨h, 0, none⟩)] (by simp only [List.map_toArray, List.map_cons, List.map_nil]; rfl) ?_; refine (book_c (w := W.drew) (h := h) (b := b) HH.out).mono ?_; rintro e w2 ⟨rfl, rfl⟩; refine ⟨_, rfl, ?_⟩)
    | (refine step_call rfl (f := 85) rfl Try.func85 (by kernel_rfl) rfl #[.pointer (some ⟨b, 0, none⟩), .agg #[.int .i64 a0, .int .i64 a1, .int .i64 a2, .slice A n cap, .slice A' n' cap']] (by simp only [List.map_toArray, List.map_cons, List.map_nil]; rfl) ?_; refine HN.out.mono ?_; rintro e w2 ⟨rfl, hq⟩; refine ⟨_, rfl, ?_⟩; have HQ := hid hq; clear hq))
  all_goals (go_wp2; go_ret2; exact ⟨rfl, HQ.out⟩)
set_option maxHeartbeats 800000 in
set_option maxRecDepth 100000 in
theorem hloadO (hB : B ≤ w.heap.size) (hH : HOk w h b) {k a0 a1 a2 x : Int} (hk : -9223372036854775807 ≤ k ∧ k ≤ 9223372036854775807) {Q : World → Option Addr → Nat → Nat → Option Addr → Nat → Nat → Prop}
    (hN : Calls Try.prog 73 #[.pointer (some ⟨b, 0, none⟩), .int .i64 (k - 1)] (w.alloc (.cells #[.int .i64 0, .int .i64 0, .int .i64 0, .slice none 0 0, .slice none 0 0] 47)) fun e w' => ∃ A n cap A' n' cap',
      e = .returned (.tuple #[.agg #[.int .i64 a0, .int .i64 a1, .int .i64 a2, .slice A n cap, .slice A' n' cap'], .int .i64 x]) ∧ Below (w.alloc (.cells #[.int .i64 0, .int .i64 0, .int .i64 0, .slice none 0 0, .slice none 0 0] 47)).heap.size (w.alloc (.cells #[.int .i64 0, .int .i64 0, .int .i64 0, .slice none 0 0, .slice none 0 0] 47)) w' ∧ Q w' A n cap A' n' cap') :
    Calls Try.prog 32 #[ptr h, .int .i64 k] w fun e w' => ∃ w1 A n cap A' n' cap', e = .returned (.tuple #[.agg #[.int .i64 a0, .int .i64 a1, .int .i64 a2, .slice A n cap, .slice A' n' cap'], .int .i64 x]) ∧ Q w1 A n cap A' n' cap' ∧ Below w.heap.size w w' ∧ Fr B w1 w' ∧ (∀ base T sz v n xs, w.heap.size < base → w1.ownsRow base T sz v n xs → w'.ownsRow base T sz v n xs) := by
  have HN := hid hN
  have HH := hid (hH.below ((Below.refl _ _).alloc (Nat.le_refl _) (.cells #[.int .i64 0, .int .i64 0, .int .i64 0, .slice none 0 0, .slice none 0 0] 47)))
  have hw : IntKind.i64.wrap (k - 1) = k - 1 := IntWalk.i64_in _ (by omega)
  have l0 : w.heap.size < (w.alloc (.cells #[.int .i64 0, .int .i64 0, .int .i64 0, .slice none 0 0, .slice none 0 0] 47)).heap.size := by simp
  have r0 := heap_alloc_new w (.cells #[.int .i64 0, .int .i64 0, .int .i64 0, .slice none 0 0, .slice none 0 0] 47)
  have B0 := hid ((Below.refl _ _).alloc (Nat.le_refl w.heap.size) (.cells #[.int .i64 0, .int .i64 0, .int .i64 0, .slice none 0 0, .slice none 0 0] 47))
  clear hN hH
  unfold ptr
  go_enter Try.func32, Try.ntmps32
  go_wp2_with fail
  generalize (w.alloc (.cells #[.int .i64 0, .int .i64 0, .int .i64 0, .slice none 0 0, .slice none 0 0] 47)) = W at HN HH l0 r0 B0 ⊢
  refine (book_c HH.out).mono ?_
  rintro e w1 ⟨rfl, rfl⟩
  go_wp2_with fail
  refine HN.out.mono ?_
  rintro e w2 ⟨A, n, cap, A', n', cap', rfl, hb, hq⟩
  have HQ := hid hq
  have r2 := (hb.block _ l0).trans r0
  obtain ⟨q0, q1, q2, q3, q4, g0, g1, g2, g3, g4⟩ := zero_cell r2
  have hT := hid (Typ.of r2)
  have HB := hid hb
  clear hq hb r0 r2
  go_wp2_with fail
  have F := Fr.set5 (B := B) (w := w2) (k := w.heap.size) (o := 0) (.int .i64 a0) (.int .i64 a1) (.int .i64 a2) (.slice A n cap) (.slice A' n' cap') hT.out (by decide) (by decide) hB
  refine bodyPost_ret (v := .tuple #[.agg #[.int .i64 a0, .int .i64 a1, .int .i64 a2, .slice A n cap, .slice A' n' cap'], .int .i64 x]) (by simp [results, Try.results32, go_sem, q0, q1, q2, q3, q4]) rfl ⟨w2, A, n, cap, A', n', cap', rfl, HQ.out, ?_, F, fun base T sz v n xs hk ho => own_set (own_set (own_set (own_set (own_set ho hk _ _) hk _ _) hk _ _) hk _ _) hk _ _⟩
  exact Below.set5 (B0.out.trans (HB.out.mono (Nat.le_of_lt l0))) (Nat.le_refl _) _ _ _ _ _
theorem hload (hB : B ≤ w.heap.size) (hH : HOk w h b) {k a0 a1 a2 x : Int} (hk : -9223372036854775807 ≤ k ∧ k ≤ 9223372036854775807) {Q : World → Option Addr → Nat → Nat → Option Addr → Nat → Nat → Prop}
    (hN : Calls Try.prog 73 #[.pointer (some ⟨b, 0, none⟩), .int .i64 (k - 1)] (w.alloc (.cells #[.int .i64 0, .int .i64 0, .int .i64 0, .slice none 0 0, .slice none 0 0] 47)) fun e w' => ∃ A n cap A' n' cap',
      e = .returned (.tuple #[.agg #[.int .i64 a0, .int .i64 a1, .int .i64 a2, .slice A n cap, .slice A' n' cap'], .int .i64 x]) ∧ Below (w.alloc (.cells #[.int .i64 0, .int .i64 0, .int .i64 0, .slice none 0 0, .slice none 0 0] 47)).heap.size (w.alloc (.cells #[.int .i64 0, .int .i64 0, .int .i64 0, .slice none 0 0, .slice none 0 0] 47)) w' ∧ Q w' A n cap A' n' cap') :
    Calls Try.prog 32 #[ptr h, .int .i64 k] w fun e w' => ∃ w1 A n cap A' n' cap', e = .returned (.tuple #[.agg #[.int .i64 a0, .int .i64 a1, .int .i64 a2, .slice A n cap, .slice A' n' cap'], .int .i64 x]) ∧ Q w1 A n cap A' n' cap' ∧ Below w.heap.size w w' ∧ Fr B w1 w' := by
  refine (hloadO hB hH hk hN).mono ?_
  rintro e w' ⟨w1, A, n, cap, A', n', cap', rfl, q1, q2, q3, _⟩
  exact ⟨w1, A, n, cap, A', n', cap', rfl, q1, q2, q3⟩
end
end Go.Proofs.Ytdgpblhmfkpblaa.Pg
