/- Other values, other tries in a frame. -/
import Derived.Test.YtdgpblhmfkpblaaSt35
namespace Go.Proofs.Ytdgpblhmfkpblaa.Pg
open Go.RowKit

section
variable {P : Program} (w : World)
/-- append of a row, or of nothing, to an empty row of one's own. -/
theorem step_copy2 {ops : Array Oper} {o : Oper} {a : Act} {K : Act → World → Prop} {Q : Exit → Act → World → Prop} {E : Prop} (hgd : o.guard = none) (s x : Operand) (t : TypeId)
    (ho : o.op = .call { callee := .builtin .append, args := #[s, x], argTypes := #[t, t] })
    (base : Nat) (e : TypeId) (i : TypeInfo) (z : Value) (size bytes : Nat) (ht : P.underlying t = some (.slice e)) (hi : P.info? e = some i) (hz : i.zero = some z)
    (hsize : i.size = size) (hby : i.bytes = bytes) (hzs : z.cells.size = size) (hsz : 0 < size)
    (k : Nat) (hs : a.eval s = .slice (some ⟨k, 0, none⟩) 0 0) (hown : w.ownsRow base e size (.slice (some ⟨k, 0, none⟩) 0 0) 0 [])
    (A : Option Addr) (m c : Nat) (news : List Value) (hx : a.eval x = .slice A m c) (hl : news.length = m * size) (hnews : ∀ ad, A = some ad → ∀ j u, news[j]? = some u → w.cell? (ad.add j) = some u) (hA : A = none → m = 0) (h1 : ∀ u ∈ news, u.oneCell' = true)
    (h63 : m ≤ maxLen) (hbytes : m * bytes ≤ 140737488355328) (hbase : base ≤ w.heap.size)
    (h : ∀ g cap w', w'.ownsRow base e size (.slice (some ⟨g, 0, none⟩) m cap) m news → w.grownBy w' (some k) → (k = g ∨ g = w.heap.size) → g < w'.heap.size → K (a.put o.dst (.slice (some ⟨g, 0, none⟩) m cap)) w') :
    if Region.wanted o (yielded ops a.tmps) = true then Oper.wp P o a w K Q else E := by
  rcases Nat.eq_zero_or_pos m with rfl | hm
  · have hw : Region.wanted o (yielded ops a.tmps) = true := by simp [Region.wanted, hgd]
    rw [if_pos hw]
    obtain rfl : news = [] := by
      rw [Nat.zero_mul] at hl
      exact List.length_eq_zero_iff.1 hl
    have hr : (Builtin.append_ #[t, t] o.type #[.slice (some ⟨k, 0, none⟩) 0 0, .slice A 0 c]).run P w = .ok (.slice (some ⟨k, 0, none⟩) 0 0) w := by
      cases A <;> simp [Builtin.append_, run_underlying ht, sizeOf, typeInfo, hi, Builtin.lenOf, Builtin.firstCells, storeCells, loadCells, loadCellsFrom]
    unfold Oper.wp execOp
    simp only [ho, resolve, invoke, builtin, Sem.run_bind, Sem.run_pure, Result.andThen_ok, List.map_toArray, List.map_cons, List.map_nil, hs, hx, hr]
    exact h k 0 w hown ⟨rfl, rfl, rfl, Nat.le_refl _, fun _ _ _ => rfl⟩ (.inl rfl) (hown.lt k rfl).2
  · cases A with
    | none => exact absurd (hA rfl) (by omega)
    | some ad =>
      refine step_append_lies w hgd s x t ho base e i z size bytes ht hi hz hsize hby hzs hsz (.slice (some ⟨k, 0, none⟩) 0 0) 0 [] hs hown ad m c news hx hl (hnews ad rfl) h1 hm (by omega) (by rwa [Nat.zero_add]) hbase w.heap.size rfl ?_
      intro g cap w' h2 h3 h4 h5
      rw [Nat.zero_add, List.nil_append] at h2
      rw [Nat.zero_add]
      exact h g cap w' h2 h3 (h4.imp (fun q => by simpa [Value.ownBlock] using q) id) h5
end
section
variable {B B' : Bd} {w w' w1 : World} {G G' : SG} {P P' : PS} {D D' : FD} {hs : List Nat} {L : List (Option (List CD))} {i : Nat}
/-- Other values in a frame: a row made for them. -/
theorem Sta.newVals (h : Sta B w D hs L i G P) {l : List VD} {j g n cap gv nv capv : Nat} {F : FrD} {c : List Value} (hg : G.fsl = .slice (some ⟨g, 0, none⟩) n cap) (hc : G.rows[j]? = some c) (hF : P.frames[j]? = some F) (hn : l.length = nv)
    (ho : w1.ownsRow B 33 3 (.slice (some ⟨gv, 0, none⟩) nv capv) nv (l.map VD.row).flatten) (hgr : w.grownBy w1 (valsOf c).ownBlock) (hgl : (valsOf c).ownBlock = some gv ∨ w.heap.size ≤ gv) (hlt : gv < w1.heap.size) :
    Sta (B.plus gv) (w1.setCell ⟨g, j * 9 + 6, none⟩ (.slice (some ⟨gv, 0, none⟩) nv capv)) D hs L i { G with rows := G.rows.set j (c.set 6 (.slice (some ⟨gv, 0, none⟩) nv capv)) } { P with frames := P.frames.set j { F with vals := l } } ∧
      SMv B w D G (B.plus gv) (w1.setCell ⟨g, j * 9 + 6, none⟩ (.slice (some ⟨gv, 0, none⟩) nv capv)) D { G with rows := G.rows.set j (c.set 6 (.slice (some ⟨gv, 0, none⟩) nv capv)) } := by
  have hgo : G.fsl.ownBlock = some g := by rw [hg]; rfl
  have ht := h.ok.fr.typ hgo
  have hX := h.ok.row j F c hF hc
  have hne : (valsOf c).ownBlock ≠ some g := fun e => absurd ((hX.vals.typ e).1.uniq ht.1) (by decide)
  have hg1 : w1.heap[g]? = w.heap[g]? := hgr.block _ ht.1.lt (fun e => hne e.symm)
  have hE : Ext B (B.plus gv) w.heap.size := Ext.plusOr (hgl.imp (hX.vals.X gv) id)
  have hf1 : Fr B w w1 := fr_grownX hX.vals.own (Nat.le_refl _) hX.vals.X hgr
  have hf : Fr B w (w1.setCell ⟨g, j * 9 + 6, none⟩ (.slice (some ⟨gv, 0, none⟩) nv capv)) := hf1.trans (Fr.setX _ (h.ok.fr.X g hgo) ht.2)
  have hr := h.ok.fr.keep (B' := B.plus gv) (w' := w1) hE (fun k hk => hgr.block _ (h.ok.fr.typ hk).1.lt (fun e => by rw [hgo] at hk; injection hk with hk; exact hne (by rw [hk]; exact e.symm)))
  rw [hg] at hr
  have hgg : gv ≠ g := fun e => absurd ((own_typ ho (k := gv) rfl).1.uniq (by rw [e]; exact ht.1.move hg1)) (by decide)
  refine h.setFrame hc hE ?_ hf ?_ (by rw [hg]; exact xr_cellSet hr hc (by decide) _) ?_ ?_
  · rintro k (hk | rfl)
    · have := h.h.fam.fresh k hk
      have := hgr.size
      simp; omega
    · simpa using hlt
  · exact fun k hk h1 h2 => (set_ne _ (fun e => h1 (by rw [e]; exact hgo))).trans (hgr.block k hk (fun e => h2 e.symm))
  · obtain ⟨v, t, e, hv, ht'⟩ := hX
    refine ⟨.slice (some ⟨gv, 0, none⟩) nv capv, t, by rw [e]; rfl, ⟨?_, ?_, VD.row_len⟩, (ht'.raise hE (Nat.le_refl _)).move (hf.raise hE)⟩
    · refine own_base (own_move (w := w1) ?_ (fun k hk => set_ne _ (fun e => ?_))) hE.hn.symm
      · rw [List.length_map, hn]; exact ho
      · have hk' : gv = k := by simpa [Value.ownBlock] using hk
        exact hgg (hk'.trans e)
    · exact fun k hk => .inr (by simpa [Value.ownBlock] using hk.symm)
  · intro k hk
    have hv : valsOf (c.set 6 (.slice (some ⟨gv, 0, none⟩) nv capv)) = .slice (some ⟨gv, 0, none⟩) nv capv := by
      obtain ⟨v, t, e, _⟩ := hX
      rw [e]; rfl
    rw [hv] at hk
    have hk' : gv = k := by simpa [Value.ownBlock] using hk
    subst hk'
    exact hgl
theorem FrX.trSet {F : FrD} {c : List Value} (h : FrX B w F c) {u : Value} {l : List TrD} (hu : RowR B w 3 u (l.map TrD.row)) : FrX B w { F with tries := l } (c.set 7 u) := by
  obtain ⟨v, t, e, h1, _⟩ := h
  exact ⟨v, u, by rw [e]; rfl, h1, hu⟩
theorem grownBy_below (hb : Below w.heap.size w w1) (row : Option Nat) : w.grownBy w1 row := ⟨hb.os, hb.tape, hb.output, hb.size, fun k hk _ => hb.block k hk⟩
end
end Go.Proofs.Ytdgpblhmfkpblaa.Pg
