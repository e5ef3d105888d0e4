/- The document's Add, where nothing is added. -/
import Derived.Test.YtljbdmmidajmdaaPg48
namespace Go.Proofs.Ytljbdmmidajmdaa.Pg
open Go.RowKit

section
variable {B : Nat} {w : World} {D : FD} {fb g cap next b : Nat} {R : List RB} {x : RB}
set_option maxHeartbeats 1600000 in
set_option maxRecDepth 100000 in
theorem radd_gone (h : RF B w D fb g cap R next) (hb : R[b]? = some x) (hg : x.gone = true) {c : CD} {A A' : Option Addr} {n p n' p' : Nat} :
    Calls Try.prog 22 #[.pointer (some ⟨fb, 0, none⟩), .int .i64 b, .agg #[.int .i64 c.kind, .int .i64 c.a, .int .i64 c.b, .slice A n p, .slice A' n' p']] w fun e w' => e = .returned (.int .i64 2) ∧ Below w.heap.size w w' := by
  have hW := (Below.refl w.heap.size w).alloc (Nat.le_refl _) (.cells #[.int .i64 c.kind, .int .i64 c.a, .int .i64 c.b, .slice A n p, .slice A' n' p'] 31)
  obtain ⟨A1, p1, A2, p2, d0, -, d2, e1, e2, -⟩ := (h.below hW).at_ hb
  rw [hg] at d2
  have c0 := (h.below hW).c0
  have hbl := (List.getElem?_eq_some_iff.1 hb).1
  have hm := h.small
  unfold maxLen at hm e2
  have hbl' : (b : Int) < (R.length : Nat) := by omega
  have HW := hid hW
  clear h hb hW hg
  go_enter Try.func22, Try.ntmps22
  go_wp2_with fail
  go_ret
  exact ⟨rfl, HW.out⟩
set_option maxHeartbeats 1600000 in
set_option maxRecDepth 100000 in
theorem radd_full (h : RF B w D fb g cap R next) (hb : R[b]? = some x) (hg : x.gone = false) (hf : 4096 ≤ x.cells.length) {c : CD} {A A' : Option Addr} {n p n' p' : Nat} :
    Calls Try.prog 22 #[.pointer (some ⟨fb, 0, none⟩), .int .i64 b, .agg #[.int .i64 c.kind, .int .i64 c.a, .int .i64 c.b, .slice A n p, .slice A' n' p']] w fun e w' => e = .returned (.int .i64 6) ∧ Below w.heap.size w w' := by
  have hW := (Below.refl w.heap.size w).alloc (Nat.le_refl _) (.cells #[.int .i64 c.kind, .int .i64 c.a, .int .i64 c.b, .slice A n p, .slice A' n' p'] 31)
  obtain ⟨A1, p1, A2, p2, d0, -, d2, e1, e2, -⟩ := (h.below hW).at_ hb
  rw [hg] at d2
  have c0 := (h.below hW).c0
  have hbl := (List.getElem?_eq_some_iff.1 hb).1
  have hm := h.small
  unfold maxLen at hm e2
  have hbl' : (b : Int) < (R.length : Nat) := by omega
  have hf' : (4096 : Int) ≤ (x.cells.length : Nat) := by omega
  have HW := hid hW
  clear h hb hW hg hf
  go_enter Try.func22, Try.ntmps22
  go_wp2_with fail
  go_ret
  exact ⟨rfl, HW.out⟩
end
end Go.Proofs.Ytljbdmmidajmdaa.Pg
