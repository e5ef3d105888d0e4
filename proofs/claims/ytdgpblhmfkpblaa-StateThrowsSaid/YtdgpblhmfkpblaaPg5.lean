/- Contracts of package pages: Len, has, Live, mine. -/
import Derived.Test.YtdgpblhmfkpblaaPg4
namespace Go.Proofs.Ytdgpblhmfkpblaa.Pg
open Go.RowKit

theorem own_oneCell {B : Bd} {w : World} : ∀ {l : List CD} {vs : List Value}, CellsR B w l vs → ∀ u ∈ vs, u.oneCell' = true
  | [], _, h, u, hu => by cases h; simp at hu
  | c :: l, _, ⟨v, r, e, ⟨ks, vl, e1, ⟨A, n, cap, e2, _⟩, ⟨A', n', cap', e3, _⟩⟩, h2⟩, u, hu => by
    subst e e1 e2 e3
    rcases List.mem_append.1 hu with h | h
    · simp at h; rcases h with rfl | rfl | rfl | rfl | rfl <;> rfl
    · exact own_oneCell h2 u h

theorem cloneCells_c {B : Bd} {base : Nat} {w : World} {v : Value} {l : List CD} {inner : List Value} (ho : w.ownsRow base 47 5 v l.length inner) (hc : CellsR B w l inner) (hl : l.length ≤ 1000000) :
    Calls Try.prog 120 #[v] w fun e w' => ∃ v', e = .returned v' ∧ Below w.heap.size w w' ∧ w'.ownsRow w.heap.size 47 5 v' l.length inner := by
  have h1 := own_oneCell hc
  rcases ho.2 with ⟨rfl, h0⟩ | ⟨g, cap, cur, rfl, _⟩
  · refine (cloneCells_nil w).mono ?_
    rintro e w' ⟨rfl, rfl⟩
    refine ⟨_, rfl, Below.refl _ _, ?_⟩
    have := ho.1
    rw [h0] at this ⊢
    have : inner = [] := List.length_eq_zero_iff.1 (by omega)
    subst this
    exact World.ownsRow_nil _ _ _ _
  · exact cloneCells_some ⟨g, 0, none⟩ l.length cap inner w ho.1 (ho.cells rfl) h1 (by omega)

theorem clonePg_c {base : Nat} {w : World} {v : Value} {l : List Nat} (ho : w.ownsRow base 167 1 v l.length (l.map ptr)) (hl : l.length ≤ 1000000) :
    Calls Try.prog 117 #[v] w fun e w' => ∃ v', e = .returned v' ∧ Below w.heap.size w w' ∧ w'.ownsRow w.heap.size 167 1 v' l.length (l.map ptr) := by
  rcases ho.2 with ⟨rfl, h0⟩ | ⟨g, cap, cur, rfl, _⟩
  · refine (clonePg_nil w).mono ?_
    rintro e w' ⟨rfl, rfl⟩
    refine ⟨_, rfl, Below.refl _ _, ?_⟩
    have : l = [] := List.length_eq_zero_iff.1 h0
    subst this
    exact World.ownsRow_nil _ _ _ _
  · exact clonePg_some ⟨g, 0, none⟩ l.length cap (l.map ptr) w ho.1 (ho.cells rfl) (fun u hu => by obtain ⟨x, _, rfl⟩ := List.mem_map.1 hu; rfl) (by omega)

/-- What a walk reads of a book. -/
theorem BkOk.reads {B : Bd} {w : World} {F b : Nat} {K : BkD} (h : BkOk B w F b K) : w.cell? ⟨b, 0, none⟩ = some (ptr F) ∧ w.cell? ⟨b, 1, none⟩ = some K.sl ∧ w.cell? ⟨b, 2, none⟩ = some (.int .i64 K.n) ∧ w.cell? ⟨b, 3, none⟩ = some (.bool K.gone) ∧
    (∀ o, w.frozen? ⟨b, o, none⟩ = false) :=
  ⟨cell_of_row w b 0 _ _ _ h.cell, cell_of_row w b 1 _ _ _ h.cell, cell_of_row w b 2 _ _ _ h.cell, cell_of_row w b 3 _ _ _ h.cell, fun o => frozen_of_row w b o _ _ h.cell⟩
theorem PgOk.reads {B : Bd} {w : World} {p : Nat} {P : PgD} (h : PgOk B w p P) : w.cell? ⟨p, 0, none⟩ = some P.sl ∧ w.cell? ⟨p, 1, none⟩ = some (.int .i64 P.sh) ∧ (∀ o, w.frozen? ⟨p, o, none⟩ = false) :=
  ⟨cell_of_row w p 0 _ _ _ h.cell, cell_of_row w p 1 _ _ _ h.cell, fun o => frozen_of_row w p o _ _ h.cell⟩
theorem Fam.reads {B : Bd} {w : World} {D : FD} (h : Fam B w D) : w.cell? ⟨D.fam, 0, none⟩ = some (.int .i64 D.live) ∧ (∀ o, w.frozen? ⟨D.fam, o, none⟩ = false) :=
  ⟨cell_of_row w D.fam 0 _ _ _ h.fam, fun o => frozen_of_row w D.fam o _ _ h.fam⟩

section
variable {B : Bd} {w : World} {D : FD} {b : Nat} {K : BkD}

set_option maxHeartbeats 400000 in
set_option maxRecDepth 100000 in
theorem len_nil (w : World) : Calls Try.prog 112 #[.pointer none] w fun e w' => e = .returned (.int .i64 0) ∧ w' = w := by
  go_enter Try.func112, Try.ntmps112
  go_wp2_with fail
  go_ret
  exact ⟨rfl, rfl⟩
set_option maxHeartbeats 400000 in
set_option maxRecDepth 100000 in
theorem len_c (h : Fam B w D) (hK : D.bk b = some K) : Calls Try.prog 112 #[ptr b] w fun e w' => e = .returned (.int .i64 K.n) ∧ w' = w := by
  obtain ⟨_, _, c2, _, _⟩ := (h.bk b K hK).reads
  clear h hK
  unfold ptr
  go_enter Try.func112, Try.ntmps112
  go_wp2_with fail
  go_ret
  exact ⟨rfl, rfl⟩
set_option maxHeartbeats 400000 in
set_option maxRecDepth 100000 in
theorem has_nil (i : Int) (w : World) : Calls Try.prog 108 #[.pointer none, .int .i64 i] w fun e w' => e = .returned (.bool false) ∧ w' = w := by
  by_cases h0 : 0 ≤ i
  · have t0 : decide (0 ≤ i) = true := by simpa using h0
    have t1 : decide (i < 0) = false := by simpa using h0
    go_enter Try.func108, Try.ntmps108
    go_wp2_with (go_at_call 112; refine (len_nil _).mono ?_; rintro e w' ⟨rfl, rfl⟩)
    go_ret
    exact ⟨rfl, rfl⟩
  · have t0 : decide (0 ≤ i) = false := by simpa using h0
    go_enter Try.func108, Try.ntmps108
    go_wp2_with fail
    go_ret
    exact ⟨rfl, rfl⟩
set_option maxHeartbeats 400000 in
set_option maxRecDepth 100000 in
theorem has_yes (h : Fam B w D) (hK : D.bk b = some K) (i : Int) (h0 : 0 ≤ i) (hi : i < K.n) : Calls Try.prog 108 #[ptr b, .int .i64 i] w fun e w' => e = .returned (.bool true) ∧ w' = w := by
  have t0 : decide (0 ≤ i) = true := by simpa using h0
  have t1 : decide (i < (K.n : Int)) = true := by simpa using hi
  have H := hid h
  have HK := hid hK
  clear h hK hi
  unfold ptr
  go_enter Try.func108, Try.ntmps108
  go_wp2_with (go_at_call 112; refine (len_c H.out HK.out).mono ?_; rintro e w' ⟨rfl, rfl⟩)
  go_ret
  exact ⟨rfl, rfl⟩
set_option maxHeartbeats 400000 in
set_option maxRecDepth 100000 in
theorem has_no (h : Fam B w D) (hK : D.bk b = some K) (i : Int) (hi : i < 0 ∨ (K.n : Int) ≤ i) : Calls Try.prog 108 #[ptr b, .int .i64 i] w fun e w' => e = .returned (.bool false) ∧ w' = w := by
  have H := hid h
  have HK := hid hK
  clear h hK
  unfold ptr
  by_cases h0 : 0 ≤ i
  · have t0 : decide (0 ≤ i) = true := by simpa using h0
    have t1 : decide (i < (K.n : Int)) = false := by simp; omega
    go_enter Try.func108, Try.ntmps108
    go_wp2_with (go_at_call 112; refine (len_c H.out HK.out).mono ?_; rintro e w' ⟨rfl, rfl⟩)
    go_ret
    exact ⟨rfl, rfl⟩
  · have t0 : decide (0 ≤ i) = false := by simpa using h0
    go_enter Try.func108, Try.ntmps108
    go_wp2_with fail
    go_ret
    exact ⟨rfl, rfl⟩
end
end Go.Proofs.Ytdgpblhmfkpblaa.Pg
