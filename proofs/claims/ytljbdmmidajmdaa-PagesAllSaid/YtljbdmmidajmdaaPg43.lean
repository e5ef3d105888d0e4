/- The document's Drop and Mark. -/
import Derived.Test.YtljbdmmidajmdaaPg42
import Derived.Deep.RegionHeld3
import Derived.Deep.DrawnRows
namespace Go.Proofs.Ytljbdmmidajmdaa.Pg
open Go.RowKit
attribute [local go_sem ↓] Go.wp_at_zero Go.wp_at_succ

section
variable {B : Nat} {w : World} {D : FD} {fb g cap next b : Nat} {R : List RB} {x : RB}
theorem NRow.nil (w : World) : NRow w none [] := ⟨fun j n hj => by simp at hj⟩
theorem Stays.none (B : Nat) (w : World) (D : FD) : Stays B w D none := fun y hy => by cases hy
theorem CRow.nil (B : Nat) (w : World) : CRow B w none 0 [] := ⟨rfl, fun j c hj => by simp at hj⟩
/-- A book is dropped or not. -/
theorem RF.goneTo (h : RF B w D fb g cap R next) (hb : R[b]? = some x) (t : Bool) :
    RF B (w.setCell ⟨g, b * 3 + 2, none⟩ (.bool t)) D fb g cap (R.set b { x with gone := t }) next ∧ RGo B w (w.setCell ⟨g, b * 3 + 2, none⟩ (.bool t)) fb g := by
  have tg := h.gtyp
  have hG := set_row (fb := fb) tg.1 tg.2 (b * 3 + 2) (.bool t)
  have hk : ∀ k, (Typ w k 31 ∨ Typ w k 3) → (w.setCell ⟨g, b * 3 + 2, none⟩ (.bool t)).heap[k]? = w.heap[k]? := fun k q4 => set_ne _ (fun e => by
    subst e
    exact q4.elim (fun t => typ_ne t tg.1 (by decide) rfl) (fun t => typ_ne t tg.1 (by decide) rfl))
  refine h.put hb (j := 2) (by omega) _ (fun hx => ?_)
  obtain ⟨A0, p0, A1, p1, d0, d1, d2, e1, e2, e3, e4, e5, f1, f2, f3, f4, f5⟩ := hx.ex
  refine ⟨⟨A0, p0, A1, p1, ?_, ?_, World.cell?_setCell_same _ _ _ d2, e1, e2, e3, e4.turn hG.fr (fun y hy => hk _ (e5 y hy).2.2.2), e5.turn hG.fr.size (fun y hy => hk _ (e5 y hy).2.2.2) (fun y hy => (e5 y hy).2.2.1),
    f1, f2, f3, f4.turn (fun y hy => hk _ (f5 y hy).2.2.2), f5.turn hG.fr.size (fun y hy => hk _ (f5 y hy).2.2.2) (fun y hy => (f5 y hy).2.2.1)⟩⟩
  · rw [World.cell?_setCell_other (h := by simp)]; exact d0
  · rw [World.cell?_setCell_other (h := by simp)]; exact d1

set_option maxHeartbeats 1600000 in
set_option maxRecDepth 100000 in
theorem rdrop_c (h : RF B w D fb g cap R next) (hb : R[b]? = some x) :
    Calls Try.prog 26 #[.pointer (some ⟨fb, 0, none⟩), .int .i64 b] w fun e w' => e = .returned (.tuple #[]) ∧ RF B w' D fb g cap (R.set b ⟨[], [], true⟩) next ∧ RGo B w w' fb g := by
  obtain ⟨A, p, A', p', d0, d1, d2, -⟩ := h.at_ hb
  have c0 := h.c0
  have z0 := (h.frozen (b * 3)).1
  have z1 := (h.frozen (b * 3 + 1)).1
  have z2 := (h.frozen (b * 3 + 2)).1
  have hbl := (List.getElem?_eq_some_iff.1 hb).1
  have hm := h.small
  unfold maxLen at hm
  have hbl' : (b : Int) < (R.length : Nat) := by omega
  have k1 := h.cellsTo hb (A := none) (n := 0) (c := 0) (l := []) rfl (Nat.le_refl _) (Nat.zero_le _) (fun _ => rfl) (CRow.nil _ _) (Stays.none _ _ _)
  rw [Nat.add_zero] at k1
  have k2 := k1.1.pages (b := b) (x := { x with cells := [] }) (by rw [List.getElem?_set]; simp [hbl]) (A := none) (n := 0) (c := 0) (ns := []) rfl (Nat.le_refl _) (Nat.zero_le _) (fun _ => rfl) (NRow.nil _) (Stays.none _ _ _)
  have k3 := k2.1.goneTo (b := b) (x := ⟨[], [], x.gone⟩) (by rw [List.getElem?_set, List.length_set]; simp [hbl]) true
  have K := hid (And.intro k3.1 ((k1.2.trans k2.2).trans k3.2))
  clear k1 k2 k3 h hb
  go_enter Try.func26, Try.ntmps26
  go_wp2_with fail
  refine bodyPost_end (results_none rfl _ _ _) rfl ⟨rfl, ?_⟩
  have := K.out
  rw [List.set_set, List.set_set] at this
  exact this
end
end Go.Proofs.Ytljbdmmidajmdaa.Pg
