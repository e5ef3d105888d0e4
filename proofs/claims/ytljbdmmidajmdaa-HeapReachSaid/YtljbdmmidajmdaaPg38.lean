/- A heap, a row of what it should hold, a mark of it, and a row of what that should hold. -/
import Derived.Test.YtljbdmmidajmdaaPg37
namespace Go.Proofs.Ytljbdmmidajmdaa.Pg
open Go.RowKit

/-- The heap a holds X; the row v holds Z; m is nil or a mark that holds what the row u holds. -/
structure Run (B : Nat) (w : World) (a : Nat) (v u m : Value) (X Z : List CD) (N : Nat) : Prop where
  mk' ::
  ex : ∃ D hs L, Hp B w D hs L ∧ hs[0]? = some a ∧ L[0]? = some (some X) ∧ L.length ≤ N ∧ Own B w D v Z ∧ (Z = [] → v = .slice none 0 0) ∧
    ((m = .pointer none ∧ u = .slice none 0 0) ∨ ∃ j a' Y, 0 < j ∧ m = .pointer (some ⟨a', 0, none⟩) ∧ hs[j]? = some a' ∧ L[j]? = some (some Y) ∧ Y.length ≤ 60 ∧ Own B w D u Y ∧ ∀ g, u.ownBlock = some g → v.ownBlock ≠ some g)
/-- Behind a mark, of which no row is kept yet. -/
structure RunM (B : Nat) (w : World) (a : Nat) (v : Value) (a' : Nat) (X : List CD) (N : Nat) : Prop where
  mk' ::
  ex : ∃ D hs L j, Hp B w D hs L ∧ hs[0]? = some a ∧ L[0]? = some (some X) ∧ L.length ≤ N ∧ Own B w D v X ∧ (X = [] → v = .slice none 0 0) ∧ 0 < j ∧ hs[j]? = some a' ∧ L[j]? = some (some X)

section
variable {B : Nat} {w w' : World} {a : Nat} {v u m : Value} {X Z : List CD} {N : Nat} {c : CD}
theorem Run.below (h : Run B w a v u m X Z N) (hb : Below w.heap.size w w') : Run B w' a v u m X Z N := by
  obtain ⟨D, hs, L, h1, h2, h3, h4, h5, h6, h7⟩ := h.ex
  exact ⟨⟨D, hs, L, h1.below hb, h2, h3, h4, h5.below hb, h6, h7.imp id fun ⟨j, a', Y, q0, q1, q2, q3, q4, q5, q6⟩ => ⟨j, a', Y, q0, q1, q2, q3, q4, q5.below hb, q6⟩⟩⟩
theorem Run.start {D : FD} (h : Hp B w D [a] [some []]) : Run B w a (.slice none 0 0) (.slice none 0 0) (.pointer none) [] [] 1 :=
  ⟨⟨D, [a], [some []], h, rfl, rfl, Nat.le_refl _, Own.nil _ _ _, fun _ => rfl, .inl ⟨rfl, rfl⟩⟩⟩
theorem Run.mark (h : Run B w a v u m X X N) (hB : B ≤ w.heap.size) (hN : N ≤ 500) :
    Calls Try.prog 31 #[.pointer (some ⟨a, 0, none⟩)] w fun e w' => ∃ a', e = .returned (.pointer (some ⟨a', 0, none⟩)) ∧ RunM B w' a v a' X (N + 1) ∧ Below B w w' := by
  obtain ⟨D, hs, L, h1, h2, h3, h4, h5, h6, h7⟩ := h.ex
  refine (h1.mark hB (by omega) h2 h3).mono ?_
  rintro e w' ⟨a', rfl, D', g1, g2, g3⟩
  have hl := h1.len_le
  have h0 := (List.getElem?_eq_some_iff.1 h2).1
  refine ⟨a', rfl, ⟨⟨D', hs ++ [a'], L ++ [some X], hs.length, g1, ?_, ?_, by simp; omega, h5.goes g2, h6, h0, by simp, ?_⟩⟩, g2.low h1.fam hB⟩
  · rw [List.getElem?_append_left h0]; exact h2
  · rw [List.getElem?_append_left (by omega)]; exact h3
  · rw [List.getElem?_append_right (by omega), hl]; simp
theorem RunM.row {a' : Nat} (h : RunM B w a v a' X N) : ∃ inner, w.ownsRow B 31 5 v X.length inner ∧ CellsR B w X inner ∧ (X = [] → v = .slice none 0 0) := by
  obtain ⟨D, hs, L, j, h1, h2, h3, h4, h5, h6, h7⟩ := h.ex
  obtain ⟨inner, o1, o2⟩ := h5.out
  exact ⟨inner, o1, o2, h6⟩
theorem RunM.done {a' : Nat} (h : RunM B w a v a' X N) (hX : X.length ≤ 60) (hb : Below w.heap.size w w') (ho : Out B w' B u X) (hnew : ∀ g, u.ownBlock = some g → w.heap.size ≤ g) : Run B w' a v u (.pointer (some ⟨a', 0, none⟩)) X X N := by
  obtain ⟨D, hs, L, j, h1, h2, h3, h4, h5, h6, h7, h8, h9⟩ := h.ex
  refine ⟨⟨D, hs, L, h1.below hb, h2, h3, h4, h5.below hb, h6, .inr ⟨j, a', X, h7, rfl, h8, h9, hX, ⟨ho, fun g hg hf => ?_⟩, fun g hg hv => ?_⟩⟩⟩
  · have := (h1.fam.foot_lt hf).1; have := hnew g hg; omega
  · obtain ⟨inner, o1, o2⟩ := h5.out
    have := (o1.lt g hv).2; have := hnew g hg; omega
/-- The heap's list turns. -/
theorem Run.turn {D D' : FD} {hs : List Nat} {L : List (Option (List CD))} {X' : List CD} (h2 : hs[0]? = some a) (h3 : L[0]? = some (some X)) (h4 : L.length ≤ N) (h5 : Own B w D v Z) (h6 : Z = [] → v = .slice none 0 0)
    (h7 : (m = .pointer none ∧ u = .slice none 0 0) ∨ ∃ j a' Y, 0 < j ∧ m = .pointer (some ⟨a', 0, none⟩) ∧ hs[j]? = some a' ∧ L[j]? = some (some Y) ∧ Y.length ≤ 60 ∧ Own B w D u Y ∧ ∀ g, u.ownBlock = some g → v.ownBlock ≠ some g)
    (g1 : Hp B w' D' hs (L.set 0 (some X'))) (g2 : Goes B w D w' D') : Run B w' a v u m X' Z N := by
  have h0 := (List.getElem?_eq_some_iff.1 h3).1
  refine ⟨⟨D', hs, L.set 0 (some X'), g1, h2, by rw [List.getElem?_set]; simp [h0], by rw [List.length_set]; exact h4, h5.goes g2, h6, h7.imp id ?_⟩⟩
  rintro ⟨j, a', Y, q0, q1, q2, q3, q4, q5, q6⟩
  exact ⟨j, a', Y, q0, q1, q2, by rw [List.getElem?_set, if_neg (by omega)]; exact q3, q4, q5.goes g2, q6⟩
theorem Run.alloc (h : Run B w a v u m X Z N) (hB : B ≤ w.heap.size) (hN : N ≤ 500) (hn : X.length < 4096) {A A' : Option Addr} {n cap n' cap' : Nat} (hr : Reads B w c (.slice A n cap) (.slice A' n' cap')) (hc : c.small) :
    Calls Try.prog 33 #[.pointer (some ⟨a, 0, none⟩), .agg #[.int .i64 c.kind, .int .i64 c.a, .int .i64 c.b, .slice A n cap, .slice A' n' cap']] w fun e w' => e = .returned (.tuple #[.int .i64 ((X.length : Nat) + 1), .int .i64 0]) ∧ Run B w' a v u m (X ++ [c]) Z N ∧ Below B w w' := by
  obtain ⟨D, hs, L, h1, h2, h3, h4, h5, h6, h7⟩ := h.ex
  refine (h1.alloc hB (by omega) h2 h3 hn hr hc).mono ?_
  rintro e w' ⟨rfl, D', g1, g2⟩
  exact ⟨rfl, Run.turn h2 h3 h4 h5 h6 h7 g1 g2, g2.low h1.fam hB⟩
theorem Run.store (h : Run B w a v u m X Z N) (hB : B ≤ w.heap.size) (hN : N ≤ 500) {k : Int} (hk1 : 1 ≤ k) (hk2 : k ≤ 1000000) (hk : (k - 1).toNat < X.length) {A A' : Option Addr} {n cap n' cap' : Nat} (hr : Reads B w c (.slice A n cap) (.slice A' n' cap')) (hc : c.small) :
    Calls Try.prog 32 #[.pointer (some ⟨a, 0, none⟩), .int .i64 k, .agg #[.int .i64 c.kind, .int .i64 c.a, .int .i64 c.b, .slice A n cap, .slice A' n' cap']] w fun e w' => e = .returned (.int .i64 0) ∧ Run B w' a v u m (X.set (k - 1).toNat c) Z N ∧ Below B w w' := by
  obtain ⟨D, hs, L, h1, h2, h3, h4, h5, h6, h7⟩ := h.ex
  refine (h1.store hB (by omega) h2 h3 hk1 hk2 hk hr hc).mono ?_
  rintro e w' ⟨rfl, D', g1, g2⟩
  exact ⟨rfl, Run.turn h2 h3 h4 h5 h6 h7 g1 g2, g2.low h1.fam hB⟩
theorem Run.store_no (h : Run B w a v u m X Z N) {k : Int} (hk0 : -9223372036854775807 ≤ k ∧ k ≤ 9223372036854775807) (hk : k < 1 ∨ ((X.length : Nat) : Int) < k) {a0 a1 a2 : Int} {A A' : Option Addr} {n cap n' cap' : Nat} :
    Calls Try.prog 32 #[.pointer (some ⟨a, 0, none⟩), .int .i64 k, .agg #[.int .i64 a0, .int .i64 a1, .int .i64 a2, .slice A n cap, .slice A' n' cap']] w fun e w' => e = .returned (.int .i64 2) ∧ Below w.heap.size w w' := by
  obtain ⟨D, hs, L, h1, h2, h3, h4, h5, h6, h7⟩ := h.ex
  exact h1.store_no h2 h3 hk0 hk
theorem Run.load_no (h : Run B w a v u m X Z N) (hB : B ≤ w.heap.size) {k : Int} (hk0 : -4611686018427387904 ≤ k ∧ k ≤ 4611686018427387904) (hk : k < 1 ∨ ((X.length : Nat) : Int) < k) :
    Calls Try.prog 34 #[.pointer (some ⟨a, 0, none⟩), .int .i64 k] w fun e w' => ∃ A n cap A' n' cap', e = .returned (.tuple #[.agg #[.int .i64 0, .int .i64 0, .int .i64 0, .slice A n cap, .slice A' n' cap'], .int .i64 2]) ∧ Below w.heap.size w w' := by
  obtain ⟨D, hs, L, h1, h2, h3, h4, h5, h6, h7⟩ := h.ex
  exact h1.load_no hB h2 h3 (by omega) hk
theorem Run.hlen (h : Run B w a v u m X Z N) {n : Int} (hn : ((X.length : Nat) : Int) = n) : Calls Try.prog 35 #[.pointer (some ⟨a, 0, none⟩)] w fun e w' => e = .returned (.int .i64 n) ∧ w' = w := by
  obtain ⟨D, hs, L, h1, h2, h3, h4, h5, h6, h7⟩ := h.ex
  exact h1.len h2 h3 hn
theorem Run.cells (h : Run B w a v u m X Z N) (hB : B ≤ w.heap.size) (hX : X.length ≤ 4096) :
    Calls Try.prog 37 #[.pointer (some ⟨a, 0, none⟩)] w fun e w' => ∃ A cap, e = .returned (.slice A X.length cap) ∧ Below w.heap.size w w' ∧ CRow B w' A X.length X := by
  obtain ⟨D, hs, L, h1, h2, h3, h4, h5, h6, h7⟩ := h.ex
  refine (h1.cells hB h2 h3 hX).mono ?_
  rintro e w' ⟨v', rfl, hb, ho⟩
  obtain ⟨A, cap, rfl, -, hr⟩ := ho.slice
  exact ⟨A, cap, rfl, hb, hr⟩
theorem Run.want (h : Run B w a v u m X Z N) : ∃ A cap, v = .slice A Z.length cap ∧ Z.length ≤ maxLen ∧ CRow B w A Z.length Z := by
  obtain ⟨D, hs, L, h1, h2, h3, h4, h5, h6, h7⟩ := h.ex
  exact h5.slice
/-- The mark's cells, where there is one. -/
theorem Run.marked {a' : Nat} (h : Run B w a v u (.pointer (some ⟨a', 0, none⟩)) X Z N) (hB : B ≤ w.heap.size) : ∃ Y A cap, u = .slice A Y.length cap ∧ Y.length ≤ 60 ∧ CRow B w A Y.length Y ∧
    ∀ W, Below w.heap.size w W → Calls Try.prog 37 #[.pointer (some ⟨a', 0, none⟩)] W fun e w' => ∃ A cap, e = .returned (.slice A Y.length cap) ∧ Below W.heap.size W w' ∧ CRow B w' A Y.length Y := by
  obtain ⟨D, hs, L, h1, h2, h3, h4, h5, h6, h7⟩ := h.ex
  rcases h7 with ⟨e, _⟩ | ⟨j, b', Y, q0, q1, q2, q3, q4, q5, q6⟩
  · cases e
  · injection q1 with q1
    injection q1 with q1
    injection q1 with q1
    subst q1
    obtain ⟨A, cap, e, _, hr⟩ := q5.slice
    refine ⟨Y, A, cap, e, q4, hr, fun W hW => ((h1.below hW).cells (Nat.le_trans hB hW.size) q2 q3 (by omega)).mono ?_⟩
    rintro e w' ⟨v', rfl, hb, ho⟩
    obtain ⟨A, cap, rfl, -, hr⟩ := ho.slice
    exact ⟨A, cap, rfl, hb, hr⟩
theorem Run.kind (h : Run B w a v u m X Z N) : (m = .pointer none ∧ u = .slice none 0 0) ∨ ∃ a', m = .pointer (some ⟨a', 0, none⟩) := by
  obtain ⟨D, hs, L, h1, h2, h3, h4, h5, h6, h7⟩ := h.ex
  exact h7.imp id fun ⟨j, a', Y, q0, q1, _⟩ => ⟨a', q1⟩
/-- The row behind an append. -/
theorem Run.row (h : Run B w a v u m X Z N) : ∃ inner, w.ownsRow B 31 5 v Z.length inner ∧ CellsR B w Z inner ∧
    ∀ (w' : World) (g cap : Nat) (vs : List Value), w.grownBy w' v.ownBlock → w'.ownsRow B 31 5 (.slice (some ⟨g, 0, none⟩) (Z.length + 1) cap) (Z.length + 1) (inner ++ vs) → (v.ownBlock = some g ∨ w.heap.size ≤ g) → CellR B w c vs → B ≤ w.heap.size →
      Run B w' a (.slice (some ⟨g, 0, none⟩) (Z.length + 1) cap) u m X (Z ++ [c]) N ∧ Below B w w' := by
  obtain ⟨D, hs, L, h1, h2, h3, h4, h5, h6, h7⟩ := h.ex
  obtain ⟨inner, o1, o2⟩ := h5.out
  refine ⟨inner, o1, o2, fun w' g cap vs hg ho hat hc hB => ⟨⟨⟨D, hs, L, h1.grown h5 hg, h2, h3, h4, h5.push h1.fam rfl o1 o2 hg ho hat hc, fun e => by simp at e, h7.imp id ?_⟩⟩, h5.low hB hg⟩⟩
  rintro ⟨j, a', Y, q0, q1, q2, q3, q4, q5, q6⟩
  refine ⟨j, a', Y, q0, q1, q2, q3, q4, q5.grown h5 hg q6, fun x hx hv => ?_⟩
  obtain rfl : g = x := by simpa [Value.ownBlock] using hv
  rcases hat with e | e
  · exact q6 g hx e
  · obtain ⟨i2, p1, _⟩ := q5.out
    have := (p1.lt g hx).2; omega
/-- The row behind a store. -/
theorem Run.put {A : Option Addr} {n cap i : Nat} {ks vl : Value} (h : Run B w a (.slice A n cap) u m X Z N) (hB : B ≤ w.heap.size) (hi : i < Z.length) (hr : Reads B w c ks vl) : ∃ g, A = some ⟨g, 0, none⟩ ∧
    (∀ j, j < 5 → (w.cell? ⟨g, i * 5 + j, none⟩).isSome = true) ∧ (∀ j, w.frozen? ⟨g, j, none⟩ = false) ∧
    Run B (((((w.setCell ⟨g, i * 5, none⟩ (.int .i64 c.kind)).setCell ⟨g, i * 5 + 1, none⟩ (.int .i64 c.a)).setCell ⟨g, i * 5 + 2, none⟩ (.int .i64 c.b)).setCell ⟨g, i * 5 + 3, none⟩ ks).setCell ⟨g, i * 5 + 4, none⟩ vl) a (.slice A n cap) u m X (Z.set i c) N ∧
    Below B w (((((w.setCell ⟨g, i * 5, none⟩ (.int .i64 c.kind)).setCell ⟨g, i * 5 + 1, none⟩ (.int .i64 c.a)).setCell ⟨g, i * 5 + 2, none⟩ (.int .i64 c.b)).setCell ⟨g, i * 5 + 3, none⟩ ks).setCell ⟨g, i * 5 + 4, none⟩ vl) := by
  obtain ⟨D, hs, L, h1, h2, h3, h4, h5, h6, h7⟩ := h.ex
  obtain ⟨g, e, g1, g2, g3, g4⟩ := h5.put hi hr
  have hv : (Value.slice A n cap).ownBlock = some g := by rw [e]; rfl
  rw [← hv] at g3
  refine ⟨g, e, g1, g2, ⟨⟨D, hs, L, h1.grown h5 g3, h2, h3, h4, g4, fun e => ?_, h7.imp id ?_⟩⟩, h5.low hB g3⟩
  · have := congrArg List.length e
    rw [List.length_set, List.length_nil] at this
    omega
  · rintro ⟨j, a', Y, q0, q1, q2, q3, q4, q5, q6⟩
    exact ⟨j, a', Y, q0, q1, q2, q3, q4, q5.grown h5 g3 q6, q6⟩
end
end Go.Proofs.Ytljbdmmidajmdaa.Pg
