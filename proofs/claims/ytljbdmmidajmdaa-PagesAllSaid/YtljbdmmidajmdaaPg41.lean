/- What the document's family's calls turn. -/
import Derived.Test.YtljbdmmidajmdaaPg40
namespace Go.Proofs.Ytljbdmmidajmdaa.Pg
open Go.RowKit

/-- All but the family's block and its row of books stays as it was. -/
structure RGo (B : Nat) (w w' : World) (fb g : Nat) : Prop where
  fr : Fr B w w'
  keep : ∀ k, k < w.heap.size → k ≠ fb → k ≠ g → w'.heap[k]? = w.heap[k]?
section
variable {B : Nat} {w w' w2 : World} {D : FD} {fb g cap next b : Nat} {R : List RB} {x : RB}
theorem RGo.trans (h : RGo B w w' fb g) (h' : RGo B w' w2 fb g) : RGo B w w2 fb g :=
  ⟨h.fr.trans h'.fr, fun k hk h1 h2 => (h'.keep k (Nat.lt_of_lt_of_le hk h.fr.size) h1 h2).trans (h.keep k hk h1 h2)⟩
theorem RGo.below (hb : Below w.heap.size w w') : RGo B w w' fb g := ⟨Fr.of_below hb, fun k hk _ _ => hb.block k hk⟩
theorem RGo.fam (hG : RGo B w w' fb g) (h : RF B w D fb g cap R next) (hF : Fam B w D) : Fam B w' D :=
  hF.move hG.fr (fun k hk => hG.keep k (hF.foot_lt hk).1 (fun e => h.no (e ▸ hk)) (fun e => h.norow (e ▸ hk)))

theorem set_other (hT : Typ w fb 50) (hB : B ≤ fb) (i : Nat) (u : Value) : RGo B w (w.setCell ⟨fb, i, none⟩ u) fb g :=
  ⟨Fr.set (p := ⟨fb, i, none⟩) u hT (by decide) (by decide) hB, fun k _ h1 _ => set_ne u h1⟩
theorem set_row (hT : Typ w g 47) (hB : B ≤ g) (i : Nat) (u : Value) : RGo B w (w.setCell ⟨g, i, none⟩ u) fb g :=
  ⟨Fr.set (p := ⟨g, i, none⟩) u hT (by decide) (by decide) hB, fun k _ _ h2 => set_ne u h2⟩

/-- One number more. -/
theorem RF.bump (h : RF B w D fb g cap R next) {m : Int} (hm : m = ((next + 1 : Nat) : Int)) : RF B (w.setCell ⟨fb, 1, none⟩ (.int .i64 m)) D fb g cap R (next + 1) ∧ RGo B w (w.setCell ⟨fb, 1, none⟩ (.int .i64 m)) fb g := by
  subst hm
  have tf := Typ.of h.cell
  have hG := set_other (g := g) tf h.base 1 (.int .i64 ((next + 1 : Nat) : Int))
  obtain ⟨inner, ho⟩ := h.row
  have hgf : g ≠ fb := typ_ne h.gtyp.1 tf (by decide)
  refine ⟨⟨h.base, h.no, (set_at h.cell _).trans rfl, ⟨inner, own_move ho (fun k hk => ?_)⟩, h.norow, fun i x hx => (h.bk i x hx).turn hG.fr (fun k q1 q2 q3 q4 => ⟨set_ne _ (fun e => ?_), q3⟩) (fun j hj => World.cell?_of_block (a := ⟨g, i * 3 + j, none⟩) (set_ne _ hgf))⟩, hG⟩
  · obtain rfl : g = k := by simpa [Value.ownBlock] using hk
    exact set_ne _ hgf
  · subst e
    exact q4.elim (fun t => typ_ne t tf (by decide) rfl) (fun t => typ_ne t tf (by decide) rfl)

theorem RF.put (h : RF B w D fb g cap R next) (hb : R[b]? = some x) {x' : RB} {j : Nat} (hj : j < 3) (u : Value)
    (hx : RBk B w D g (b * 3) x → RBk B (w.setCell ⟨g, b * 3 + j, none⟩ u) D g (b * 3) x') :
    RF B (w.setCell ⟨g, b * 3 + j, none⟩ u) D fb g cap (R.set b x') next ∧ RGo B w (w.setCell ⟨g, b * 3 + j, none⟩ u) fb g := by
  have tg := h.gtyp
  have hG := set_row (fb := fb) tg.1 tg.2 (b * 3 + j) u
  have hgf : g ≠ fb := typ_ne tg.1 (Typ.of h.cell) (by decide)
  obtain ⟨inner, ho⟩ := h.row
  have hlt := (List.getElem?_eq_some_iff.1 hb).1
  refine ⟨⟨h.base, h.no, by rw [List.length_set]; exact (set_ne _ (Ne.symm hgf)).trans h.cell, ⟨_, by rw [List.length_set]; exact (ho.stored (b * 3 + j) u).1⟩, h.norow, fun i y hy => ?_⟩, hG⟩
  rw [List.getElem?_set] at hy
  split at hy
  · rename_i e
    subst e
    obtain rfl := Option.some.inj hy
    exact hx (h.bk b x hb)
  · rename_i e
    refine (h.bk i y hy).turn hG.fr (fun k q1 q2 q3 q4 => ⟨set_ne _ (fun e' => ?_), q3⟩) (fun l hl => World.cell?_setCell_other _ _ _ _ (fun e' => ?_))
    · subst e'
      exact q4.elim (fun t => typ_ne t tg.1 (by decide) rfl) (fun t => typ_ne t tg.1 (by decide) rfl)
    · have : b * 3 + j = i * 3 + l := congrArg Addr.off e'
      omega
/-- A book's numbers are other ones. -/
theorem RF.pages (h : RF B w D fb g cap R next) (hb : R[b]? = some x) {A : Option Addr} {n c : Nat} {ns : List Nat} (hl : ns.length = n) (h1 : n ≤ c) (h2 : c ≤ maxLen) (h3 : A = none → c = 0) (hN : NRow w A ns) (hS : Stays B w D A) :
    RF B (w.setCell ⟨g, b * 3 + 1, none⟩ (.slice A n c)) D fb g cap (R.set b { x with pgs := ns }) next ∧ RGo B w (w.setCell ⟨g, b * 3 + 1, none⟩ (.slice A n c)) fb g := by
  have tg := h.gtyp
  have hG := set_row (fb := fb) tg.1 tg.2 (b * 3 + 1) (.slice A n c)
  have hk : ∀ k, (Typ w k 31 ∨ Typ w k 3) → (w.setCell ⟨g, b * 3 + 1, none⟩ (.slice A n c)).heap[k]? = w.heap[k]? := fun k q4 => set_ne _ (fun e => by
    subst e
    exact q4.elim (fun t => typ_ne t tg.1 (by decide) rfl) (fun t => typ_ne t tg.1 (by decide) rfl))
  refine h.put hb (j := 1) (by omega) _ (fun hx => ?_)
  obtain ⟨A0, p0, A1, p1, d0, d1, d2, e1, e2, e3, e4, e5, _⟩ := hx.ex
  subst hl
  refine ⟨⟨A0, p0, A, c, ?_, World.cell?_setCell_same _ _ _ d1, ?_, e1, e2, e3, e4.turn hG.fr (fun y hy => hk _ (e5 y hy).2.2.2), e5.turn hG.fr.size (fun y hy => hk _ (e5 y hy).2.2.2) (fun y hy => (e5 y hy).2.2.1), h1, h2, h3,
    hN.turn (fun y hy => hk _ (hS y hy).2.2.2), hS.turn hG.fr.size (fun y hy => hk _ (hS y hy).2.2.2) (fun y hy => (hS y hy).2.2.1)⟩⟩
  · rw [World.cell?_setCell_other (h := by simp)]; exact d0
  · rw [World.cell?_setCell_other (h := by simp)]; exact d2
/-- A book's cells are other ones. -/
theorem RF.cellsTo (h : RF B w D fb g cap R next) (hb : R[b]? = some x) {A : Option Addr} {n c : Nat} {l : List CD} (hl : l.length = n) (h1 : n ≤ c) (h2 : c ≤ maxLen) (h3 : A = none → c = 0) (hN : CRow B w A n l) (hS : Stays B w D A) :
    RF B (w.setCell ⟨g, b * 3 + 0, none⟩ (.slice A n c)) D fb g cap (R.set b { x with cells := l }) next ∧ RGo B w (w.setCell ⟨g, b * 3 + 0, none⟩ (.slice A n c)) fb g := by
  have tg := h.gtyp
  have hG := set_row (fb := fb) tg.1 tg.2 (b * 3 + 0) (.slice A n c)
  have hk : ∀ k, (Typ w k 31 ∨ Typ w k 3) → (w.setCell ⟨g, b * 3 + 0, none⟩ (.slice A n c)).heap[k]? = w.heap[k]? := fun k q4 => set_ne _ (fun e => by
    subst e
    exact q4.elim (fun t => typ_ne t tg.1 (by decide) rfl) (fun t => typ_ne t tg.1 (by decide) rfl))
  refine h.put hb (j := 0) (by omega) _ (fun hx => ?_)
  obtain ⟨A0, p0, A1, p1, d0, d1, d2, e1, e2, e3, e4, e5, f1, f2, f3, f4, f5⟩ := hx.ex
  subst hl
  refine ⟨⟨A, c, A1, p1, World.cell?_setCell_same _ _ _ d0, ?_, ?_, h1, h2, h3, hN.turn hG.fr (fun y hy => hk _ (hS y hy).2.2.2), hS.turn hG.fr.size (fun y hy => hk _ (hS y hy).2.2.2) (fun y hy => (hS y hy).2.2.1),
    f1, f2, f3, f4.turn (fun y hy => hk _ (f5 y hy).2.2.2), f5.turn hG.fr.size (fun y hy => hk _ (f5 y hy).2.2.2) (fun y hy => (f5 y hy).2.2.1)⟩⟩
  · rw [World.cell?_setCell_other (h := by simp)]; exact d1
  · rw [World.cell?_setCell_other (h := by simp)]; exact d2
end
end Go.Proofs.Ytljbdmmidajmdaa.Pg
