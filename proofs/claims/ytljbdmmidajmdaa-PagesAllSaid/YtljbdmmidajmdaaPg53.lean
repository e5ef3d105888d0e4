/- Books by pages and the document's, turned side by side. -/
import Derived.Test.YtljbdmmidajmdaaPg52
import Derived.Test.YtljbdmmidajmdaaPg50
import Derived.Deep.CutBlock
namespace Go.Proofs.Ytljbdmmidajmdaa.Pg
open Go.RowKit
attribute [local go_sem ↓] Go.wp_at_zero Go.wp_at_succ

section
variable {B : Nat} {w w' w1 w2 : World} {D D' : FD} {bs : List Nat} {S S' : List SB} {fb g cap g' cap' : Nat} {R R' : List RB} {next next' : Nat} {f f' : Nat → Nat} {rg rcap b : Nat} {s : SB} {x : RB}
/-- Ahead of the document's call, and behind it. -/
theorem Twin.join (h : Twin B w D bs S fb g cap R next f rg rcap) (hG : Goes B w D w1 D') (hF : Fam B w1 D') (hS : Books D' bs S') (h2 : RF B w2 D' fb g' cap' R' next') (hR : RGo B w1 w2 fb g) (hm : Match S' R' next' f') :
    Twin B w2 D' bs S' fb g' cap' R' next' f' rg rcap := by
  have r1 := h.rf.goes hG
  have hrow := h.row.goes hG
  have n1 : rg ≠ fb := typ_ne hrow.typ (Typ.of r1.cell) (by decide)
  have n2 : rg ≠ g := typ_ne hrow.typ r1.gtyp.1 (by decide)
  exact ⟨Nat.le_trans (Nat.le_trans h.base hG.fr.size) hR.fr.size, hR.fam r1 hF, hS, h2, hm, hrow.same (hR.keep rg hrow.lt n1 n2) hrow.no, h.small⟩
theorem Twin.added (h : Twin B w D bs S fb g cap R next f rg rcap) (hs : S[b]? = some s) (hx : R[b]? = some x) {ps ps' : List Nat} {c : CD} (ho : OwnRel S s (s.cells.length / 8) ps) (hr : OwnRB R b x (x.cells.length / 8) next ps' next')
    (hG : Goes B w D w1 D') (hF : Fam B w1 D') (hS : Books D' bs (S.set b { s with cells := s.cells ++ [c], pgs := ps })) (h2 : RF B w2 D' fb g cap (R.set b { x with pgs := ps', cells := x.cells ++ [c] }) next') (hR : RGo B w1 w2 fb g) :
    ∃ S' R' f', Twin B w2 D' bs S' fb g cap R' next' f' rg rcap := by
  obtain ⟨e1, e2, e3⟩ := h.mt.bk b s x hs hx
  rw [e1] at hr
  obtain ⟨f', hm⟩ := h.mt.own hs hx (h.bks.wf s (List.mem_of_getElem? hs)).nd ho hr (s.cells ++ [c]) s.gone
  exact ⟨_, _, f', h.join hG hF hS (by rw [e1, e2] at h2; exact h2) hR hm⟩
theorem Twin.setted (h : Twin B w D bs S fb g cap R next f rg rcap) (hs : S[b]? = some s) (hx : R[b]? = some x) {ps ps' : List Nat} {k : Nat} {c : CD} (ho : OwnRel S s (k / 8) ps) (hr : OwnRB R b x (k / 8) next ps' next')
    (hG : Goes B w D w1 D') (hF : Fam B w1 D') (hS : Books D' bs (S.set b { s with cells := s.cells.set k c, pgs := ps })) (h2 : RF B w2 D' fb g cap (R.set b { x with pgs := ps', cells := x.cells.set k c }) next') (hR : RGo B w1 w2 fb g) :
    ∃ S' R' f', Twin B w2 D' bs S' fb g cap R' next' f' rg rcap := by
  obtain ⟨e1, e2, e3⟩ := h.mt.bk b s x hs hx
  obtain ⟨f', hm⟩ := h.mt.own hs hx (h.bks.wf s (List.mem_of_getElem? hs)).nd ho hr (s.cells.set k c) s.gone
  exact ⟨_, _, f', h.join hG hF hS (by rw [e1, e2] at h2; exact h2) hR hm⟩
theorem RF.but (h : RF B w D fb g cap R next) {q : Nat} (hq : Typ w q 23) (hBq : B ≤ q) (hgr : w.grownBy w' (some q)) : RF B w' D fb g cap R next := by
  have hk : ∀ k, k < w.heap.size → k ≠ q → w'.heap[k]? = w.heap[k]? := fun k hk hne => hgr.block k hk (by simpa using hne)
  have hf : Fr B w w' := ⟨hgr.os, hgr.tape, hgr.output, hgr.size, fun k hk' => hk k hk'.1 (fun e => by
    subst e
    rcases hk'.2 with h1 | ⟨cs, fr, T', h1, h2⟩
    · omega
    · have := hq.uniq (Typ.of h1)
      subst this
      revert h2
      decide)⟩
  have hl := (Array.getElem?_eq_some_iff.1 h.cell).1
  have tg := h.gtyp.1
  have n1 : fb ≠ q := typ_ne (Typ.of h.cell) hq (by decide)
  have n2 : g ≠ q := typ_ne tg hq (by decide)
  obtain ⟨inner, ho⟩ := h.row
  refine ⟨h.base, h.no, (hk _ hl n1).trans h.cell, ⟨inner, own_move ho (fun k hk' => ?_)⟩, h.norow, fun i x hx => (h.bk i x hx).turn hf (fun k _ q2 q3 q4 => ⟨hk k q2 (fun e => ?_), q3⟩) (fun j _ => World.cell?_of_block (a := ⟨g, i * 3 + j, none⟩) (hk _ tg.lt n2))⟩
  · obtain rfl : g = k := by simpa [Value.ownBlock] using hk'
    exact hk _ tg.lt n2
  · subst e
    exact q4.elim (fun t => typ_ne t hq (by decide) rfl) (fun t => typ_ne t hq (by decide) rfl)
theorem Twin.marked (h : Twin B w D bs S fb g cap R next f rg rcap) (hs : S[b]? = some s) (hx : R[b]? = some x) {b' : Nat} (h6 : bs.length < 6) (hF : Fam B w1 D') (hS : Books D' (bs ++ [b']) (S ++ [s])) (hB : B ≤ w1.heap.size)
    {rg' rcap' : Nat} (hrow : Row B w1 D' 23 1 rg' (bs.length + 1) rcap' (bs.map ptr ++ [ptr b'])) (h1 : RF B w1 D' fb g cap R next) (h2 : RF B w2 D' fb g' cap' (R ++ [x]) next) (hR : RGo B w1 w2 fb g) :
    Twin B w2 D' (bs ++ [b']) (S ++ [s]) fb g' cap' (R ++ [x]) next f rg' rcap' := by
  have n1 : rg' ≠ fb := typ_ne hrow.typ (Typ.of h1.cell) (by decide)
  have n2 : rg' ≠ g := typ_ne hrow.typ h1.gtyp.1 (by decide)
  refine ⟨Nat.le_trans hB hR.fr.size, hR.fam h1 hF, hS, h2, h.mt.mark hs hx, ?_, by rw [List.length_append]; simp; omega⟩
  rw [List.length_append, List.map_append]
  exact hrow.same (hR.keep rg' hrow.lt n1 n2) hrow.no
theorem Twin.dropped (h : Twin B w D bs S fb g cap R next f rg rcap) (hs : S[b]? = some s)
    (hG : Goes B w D w1 D') (hF : Fam B w1 D') (hS : Books D' bs (S.set b ⟨[], [], true⟩)) (h2 : RF B w2 D' fb g cap (R.set b ⟨[], [], true⟩) next) (hR : RGo B w1 w2 fb g) :
    Twin B w2 D' bs (S.set b ⟨[], [], true⟩) fb g cap (R.set b ⟨[], [], true⟩) next f rg rcap :=
  h.join hG hF hS h2 hR (h.mt.drop hs)
theorem gone_set (hw : s.Wf) (hg : s.gone = true) (hs : S[b]? = some s) : S.set b ⟨[], [], true⟩ = S := by
  have h1 := hw.gone hg
  have h2 := hw.len
  rw [h1] at h2
  have h3 : s.pgs = [] := List.length_eq_zero_iff.1 h2
  have : s = ⟨[], [], true⟩ := by cases s; simp_all
  rw [← this]
  exact set_id hs
theorem OwnRB.next_le {page : Nat} {ps : List Nat} (h : OwnRB R b x page next ps next') : next' ≤ next + 1 := by cases h <;> omega
theorem Twin.over (h : Twin B w D bs S fb g cap R next f rg rcap) {W : World} (hW : Below B W w) (hG : Goes B w D w1 D') (hR : RGo B w1 w2 fb g) : Below B W w2 :=
  hW.trans ((hG.fr.below h.base).trans (hR.fr.below (Nat.le_trans h.base hG.fr.size)))
end
section
variable {B : Nat} {w : World} {D : FD} {bs : List Nat} {S : List SB} {fb g cap : Nat} {R : List RB} {next : Nat} {b i : Nat} {s : SB} {x : RB}
/-- Where nothing is added, and why. -/
def NoAdd (t : Bool) (n : Nat) (q : Int) : Prop := (t = true ∧ q = 2) ∨ (t = false ∧ 4096 ≤ n ∧ q = 6)
theorem add_no (h : Fam B w D) (hS : Books D bs S) (hb : bs[i]? = some b) (hs : S[i]? = some s) {q : Int} (hq : NoAdd s.gone s.cells.length q) (c : CD) (ks vl : Value) :
    Calls Try.prog 14 #[ptr b, .agg #[.int .i64 c.kind, .int .i64 c.a, .int .i64 c.b, ks, vl]] w fun e w' => e = .returned (.tuple #[.int .i64 0, .int .i64 q]) ∧ Below w.heap.size w w' := by
  rcases hq with ⟨hg, rfl⟩ | ⟨hg, hf, rfl⟩
  · exact Add_gone h hS hb hs hg c ks vl
  · exact Add_full h hS hb hs hg hf c ks vl
theorem radd_no (h : RF B w D fb g cap R next) (hb : R[b]? = some x) {q : Int} (hq : NoAdd x.gone x.cells.length q) {c : CD} {A A' : Option Addr} {n p n' p' : Nat} :
    Calls Try.prog 22 #[.pointer (some ⟨fb, 0, none⟩), .int .i64 b, .agg #[.int .i64 c.kind, .int .i64 c.a, .int .i64 c.b, .slice A n p, .slice A' n' p']] w fun e w' => e = .returned (.int .i64 q) ∧ Below w.heap.size w w' := by
  rcases hq with ⟨hg, rfl⟩ | ⟨hg, hf, rfl⟩
  · exact radd_gone h hb hg
  · exact radd_full h hb hg hf
end
theorem Twin.start {W w1 : World} {D : FD} {b : Nat} (hb : Below W.heap.size W w1) (hF : Fam W.heap.size w1 D) (hS : Books D [b] [⟨[], [], false⟩]) :
    Twin W.heap.size (((w1.alloc (.cells #[.pointer (some ⟨b, 0, none⟩)] 23)).alloc (.cells #[.slice none 0 0, .slice none 0 0, .bool false] 47)).alloc (.cells #[.slice (some ⟨w1.heap.size + 1, 0, none⟩) 1 1, .int .i64 0] 50))
      D [b] [⟨[], [], false⟩] (w1.heap.size + 2) (w1.heap.size + 1) 1 [⟨[], [], false⟩] 0 id w1.heap.size 1 := by
  have s0 := hb.size
  generalize ha : w1.alloc (.cells #[.pointer (some ⟨b, 0, none⟩)] 23) = wa
  generalize hc : wa.alloc (.cells #[.slice none 0 0, .slice none 0 0, .bool false] 47) = wb
  generalize hd : wb.alloc (.cells #[.slice (some ⟨w1.heap.size + 1, 0, none⟩) 1 1, .int .i64 0] 50) = wc
  have sa : wa.heap.size = w1.heap.size + 1 := by subst ha; simp
  have sb : wb.heap.size = w1.heap.size + 2 := by subst hc; simp [sa]
  have sc : wc.heap.size = w1.heap.size + 3 := by subst hd; simp [sb]
  have b1 : Below w1.heap.size w1 wc := by subst hd hc ha; exact (((Below.refl _ _).alloc (Nat.le_refl _) _).alloc (by simp) _).alloc (by simp; omega) _
  have h0 : wc.heap[w1.heap.size]? = some (.cells #[.pointer (some ⟨b, 0, none⟩)] 23) := by
    rw [← hd, heap_alloc_old _ _ (by omega), ← hc, heap_alloc_old _ _ (by omega), ← ha]; exact heap_alloc_new _ _
  have h1 : wc.heap[w1.heap.size + 1]? = some (.cells #[.slice none 0 0, .slice none 0 0, .bool false] 47) := by
    rw [← hd, heap_alloc_old _ _ (by omega), ← hc, ← sa]; exact heap_alloc_new _ _
  have h2 : wc.heap[w1.heap.size + 2]? = some (.cells #[.slice (some ⟨w1.heap.size + 1, 0, none⟩) 1 1, .int .i64 0] 50) := by
    rw [← hd, ← sb]; exact heap_alloc_new _ _
  have hno : ∀ k, w1.heap.size ≤ k → ¬ Foot D k := fun k hk hf => by have := (hF.foot_lt hf).1; omega
  refine ⟨by omega, hF.below b1, hS, ⟨by omega, hno (w1.heap.size + 2) (by omega), h2, ⟨[.slice none 0 0, .slice none 0 0, .bool false], ?_⟩, hno (w1.heap.size + 1) (by omega), fun i x hx => ?_⟩, Match.start, ⟨?_, hno w1.heap.size (by omega)⟩, by simp⟩
  · exact ⟨rfl, .inr ⟨w1.heap.size + 1, 1, _, rfl, by omega, h1, by simp, by decide, rfl, rfl⟩⟩
  · have hi := (List.getElem?_eq_some_iff.1 hx).1
    simp only [List.length_cons, List.length_nil] at hi
    obtain rfl : i = 0 := by omega
    simp at hx
    subst hx
    have k0 := cell_of_row wc (w1.heap.size + 1) 0 _ _ _ h1
    have k1 := cell_of_row wc (w1.heap.size + 1) 1 _ _ _ h1
    have k2 := cell_of_row wc (w1.heap.size + 1) 2 _ _ _ h1
    exact ⟨⟨none, 0, none, 0, k0, k1, k2, Nat.le_refl _, Nat.zero_le _, fun _ => rfl, CRow.nil _ _, Stays.none _ _ _, Nat.le_refl _, Nat.zero_le _, fun _ => rfl, NRow.nil _, Stays.none _ _ _⟩⟩
  · exact ⟨rfl, .inr ⟨w1.heap.size, 1, _, rfl, by omega, h0, by simp, by decide, rfl, rfl⟩⟩

end Go.Proofs.Ytljbdmmidajmdaa.Pg
