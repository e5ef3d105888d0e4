/- Rows of cells that a law keeps beside a family. -/
import Derived.Test.YtljbdmmidajmdaaPg36
namespace Go.Proofs.Ytljbdmmidajmdaa.Pg
open Go.RowKit

/-- A row of the law's own, apart from the family's blocks. -/
structure Own (B : Nat) (w : World) (D : FD) (v : Value) (l : List CD) : Prop where
  out : Out B w B v l
  no : ∀ g, v.ownBlock = some g → ¬ Foot D g
section
variable {B : Nat} {w w' : World} {D D' : FD} {v v' : Value} {l l' : List CD} {c : CD} {hs : List Nat} {L : List (Option (List CD))}
theorem Own.nil (B : Nat) (w : World) (D : FD) : Own B w D (.slice none 0 0) [] := ⟨Out.nil _ _ _, fun g hg => by simp [Value.ownBlock] at hg⟩
theorem Own.typ (h : Own B w D v l) {g : Nat} (hg : v.ownBlock = some g) : Typ w g 31 ∧ B ≤ g := by obtain ⟨inner, h1, _⟩ := h.out; exact own_typ h1 hg
theorem Own.below (h : Own B w D v l) (hb : Below w.heap.size w w') : Own B w' D v l := ⟨h.out.below hb, h.no⟩
theorem Own.goes (h : Own B w D v l) (hG : Goes B w D w' D') : Own B w' D' v l := by
  obtain ⟨inner, h1, h2⟩ := h.out
  have hlt := fun g hg => (h1.lt g hg).2
  exact ⟨⟨inner, own_move h1 (fun k hk => hG.keep k (hlt k hk) (h.no k hk)), h2.move hG.fr⟩, fun g hg hf => (hG.foot g hf).elim (h.no g hg) (fun e => by have := hlt g hg; omega)⟩
theorem Own.slice (h : Own B w D v l) : ∃ A cap, v = .slice A l.length cap ∧ l.length ≤ maxLen ∧ CRow B w A l.length l := h.out.slice
/-- What grows one of them leaves the heaps as they are. -/
theorem Hp.grown (h : Hp B w D hs L) (ho : Own B w D v l) (hg : w.grownBy w' v.ownBlock) : Hp B w' D hs L := by
  obtain ⟨bs, S, h1, h2, h3, h4, h5⟩ := h
  obtain ⟨inner, o1, o2⟩ := ho.out
  have hf := fr_grown o1 (Nat.le_refl B) (by decide) (by decide) hg
  refine ⟨bs, S, h1.move hf (fun k hk => hg.block k (h1.foot_lt hk).1 (fun e => ho.no k e.symm hk)), h2, h3, fun i x b hx hb => ?_, h5⟩
  have := h4 i x b hx hb
  exact (hg.block x (Array.getElem?_eq_some_iff.1 this).1 (fun e => typ_ne (Typ.of this) (ho.typ e.symm).1 (by decide) rfl)).trans this
theorem Own.grown (h : Own B w D v' l') (ho : Own B w D v l) (hg : w.grownBy w' v.ownBlock) (hne : ∀ g, v'.ownBlock = some g → v.ownBlock ≠ some g) : Own B w' D v' l' := by
  obtain ⟨inner, o1, o2⟩ := ho.out
  obtain ⟨inner', p1, p2⟩ := h.out
  have hf := fr_grown o1 (Nat.le_refl B) (by decide) (by decide) hg
  exact ⟨⟨inner', own_move p1 (fun k hk => hg.block k (p1.lt k hk).2 (fun e => hne k hk e.symm)), p2.move hf⟩, h.no⟩
theorem Own.low (ho : Own B w D v l) (hB : B ≤ w.heap.size) (hg : w.grownBy w' v.ownBlock) : Below B w w' := by
  obtain ⟨inner, o1, o2⟩ := ho.out
  exact (fr_grown o1 (Nat.le_refl B) (by decide) (by decide) hg).below hB
/-- The row behind an append of one cell. -/
theorem Own.push {inner : List Value} {k g cap : Nat} {vs : List Value} (h : Own B w D v l) (hF : Fam B w D) (hk : l.length = k) (h1 : w.ownsRow B 31 5 v k inner) (h2 : CellsR B w l inner) (hg : w.grownBy w' v.ownBlock)
    (ho : w'.ownsRow B 31 5 (.slice (some ⟨g, 0, none⟩) (k + 1) cap) (k + 1) (inner ++ vs)) (hat : v.ownBlock = some g ∨ w.heap.size ≤ g) (hc : CellR B w c vs) : Own B w' D (.slice (some ⟨g, 0, none⟩) (k + 1) cap) (l ++ [c]) := by
  refine ⟨Out.grow hk h1 h2 (Nat.le_refl B) hg ho hc, fun x hx hf => ?_⟩
  obtain rfl : g = x := by simpa [Value.ownBlock] using hx
  rcases hat with e | e
  · exact h.no g e hf
  · have := (hF.foot_lt hf).1; omega
/-- The row behind a store of one cell. -/
theorem Own.put {A : Option Addr} {n cap i : Nat} {ks vl : Value} (h : Own B w D (.slice A n cap) l) (hi : i < l.length) (hr : Reads B w c ks vl) : ∃ g, A = some ⟨g, 0, none⟩ ∧
    (∀ j, j < 5 → (w.cell? ⟨g, i * 5 + j, none⟩).isSome = true) ∧ (∀ j, w.frozen? ⟨g, j, none⟩ = false) ∧
    w.grownBy (((((w.setCell ⟨g, i * 5, none⟩ (.int .i64 c.kind)).setCell ⟨g, i * 5 + 1, none⟩ (.int .i64 c.a)).setCell ⟨g, i * 5 + 2, none⟩ (.int .i64 c.b)).setCell ⟨g, i * 5 + 3, none⟩ ks).setCell ⟨g, i * 5 + 4, none⟩ vl) (some g) ∧
    Own B (((((w.setCell ⟨g, i * 5, none⟩ (.int .i64 c.kind)).setCell ⟨g, i * 5 + 1, none⟩ (.int .i64 c.a)).setCell ⟨g, i * 5 + 2, none⟩ (.int .i64 c.b)).setCell ⟨g, i * 5 + 3, none⟩ ks).setCell ⟨g, i * 5 + 4, none⟩ vl) D (.slice A n cap) (l.set i c) := by
  obtain ⟨inner, h1, h2⟩ := h.out
  have hlen := h2.length
  have hil : i * 5 + 5 ≤ inner.length := by rw [hlen]; omega
  rcases h1.2 with ⟨hv, h0⟩ | ⟨g, cap', cur, hv, hb, hg, _⟩
  · omega
  injection hv with e1 e2 e3
  subst e1 e2
  have tg : Typ w g 31 := Typ.of hg
  have hcc : ∀ x u, inner[x]? = some u → w.cell? ⟨g, x, none⟩ = some u := fun x u hu => by
    have := h1.cells (g := g) rfl x u hu
    rwa [show (⟨g, 0, none⟩ : Addr).add x = ⟨g, x, none⟩ by unfold Addr.add; split <;> simp_all] at this
  have hne : ∀ k, k ≠ g → (((((w.setCell ⟨g, i * 5, none⟩ (.int .i64 c.kind)).setCell ⟨g, i * 5 + 1, none⟩ (.int .i64 c.a)).setCell ⟨g, i * 5 + 2, none⟩ (.int .i64 c.b)).setCell ⟨g, i * 5 + 3, none⟩ ks).setCell ⟨g, i * 5 + 4, none⟩ vl).heap[k]? = w.heap[k]? := fun k hk =>
    (set_ne _ hk).trans ((set_ne _ hk).trans ((set_ne _ hk).trans ((set_ne _ hk).trans (set_ne _ hk))))
  have hfr := Fr.set5 (B := B) (o := i * 5) (.int .i64 c.kind) (.int .i64 c.a) (.int .i64 c.b) ks vl tg (by decide) (by decide) hb
  refine ⟨g, rfl, fun j hj => ?_, fun j => ?_, ⟨hfr.os, hfr.tape, hfr.output, hfr.size, fun k _ hk => hne k (fun e => hk (congrArg some e))⟩, ⟨⟨inner.take (i * 5) ++ [.int .i64 c.kind, .int .i64 c.a, .int .i64 c.b, ks, vl] ++ inner.drop (i * 5 + 5), ?_, (h2.set i c _ hi ⟨ks, vl, rfl, hr.k, hr.v⟩).move hfr⟩, h.no⟩⟩
  · rw [hcc _ _ (List.getElem?_eq_getElem (by omega : i * 5 + j < inner.length))]; rfl
  · exact frozen_of_row w g j _ _ hg
  · have := ((((h1.stored (i * 5) (.int .i64 c.kind)).1.stored (i * 5 + 1) (.int .i64 c.a)).1.stored (i * 5 + 2) (.int .i64 c.b)).1.stored (i * 5 + 3) ks).1.stored (i * 5 + 4) vl
    have := this.1
    rw [set5_list _ _ _ _ _ _ _ hil] at this
    rw [List.length_set]
    exact this
end
end Go.Proofs.Ytljbdmmidajmdaa.Pg
