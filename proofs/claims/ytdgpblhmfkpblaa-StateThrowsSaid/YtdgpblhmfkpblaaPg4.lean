/- A family of books: one book, or one page, is another one from now on; a new family. -/
import Derived.Test.YtdgpblhmfkpblaaPg3
namespace Go.Proofs.Ytdgpblhmfkpblaa.Pg
open Go.RowKit

section
variable {B : Bd} {w : World} {D : FD}
/-- A book is another one: nothing else of the family has turned. -/
theorem Fam.bkUpd (h : Fam B w D) {b : Nat} {K K' : BkD} (hK : D.bk b = some K) {w' : World} (hf : Fr B w w') (hk : ∀ k, Foot D k → k ≠ b → K.sl.ownBlock ≠ some k → w'.heap[k]? = w.heap[k]?) (ok : BkOk B w' D.fam b K')
    (hnew : ∀ k X g, k ≠ b → D.bk k = some X → X.sl.ownBlock = some g → K'.sl.ownBlock ≠ some g) : Fam B w' { D with bk := upd D.bk b K' } := by
  have tb := h.tBk hK
  have tr : ∀ {g : Nat} {T : TypeId}, Typ w g T → 167 ≠ T → K.sl.ownBlock ≠ some g := fun ht hne e => hne ((h.tBkRow hK e).uniq ht)
  refine ⟨h.base, (hk _ (.inl rfl) (typ_ne h.tFam tb (by decide)) (tr h.tFam (by decide))).trans h.fam, fun k P hP => ?_, fun k X hX => ?_, h.pgInj, ?_, fun k hk => Nat.lt_of_lt_of_le (h.fresh k hk) hf.size⟩
  · obtain ⟨h1, h2, inner, h3, h4⟩ := h.pg k P hP
    exact ⟨h1, (hk k (.inr (.inl ⟨P, hP⟩)) (typ_ne (h.tPg hP) tb (by decide)) (tr (h.tPg hP) (by decide))).trans h2, inner,
      own_move h3 (fun g hg => hk g (.inr (.inr (.inr (.inl ⟨k, P, hP, hg⟩)))) (typ_ne (h.tPgRow hP hg) tb (by decide)) (tr (h.tPgRow hP hg) (by decide))), h4.move hf⟩
  · rcases upd_cases hX with ⟨rfl, rfl⟩ | ⟨hne, hX⟩
    · exact ok
    · obtain ⟨h1, h2, h3⟩ := h.bk k X hX
      exact ⟨h1, (hk k (.inr (.inr (.inl ⟨X, hX⟩))) hne (tr (h.tBk hX) (by decide))).trans h2,
        own_move h3 (fun g hg => hk g (.inr (.inr (.inr (.inr ⟨k, X, hX, hg⟩)))) (typ_ne (h.tBkRow hX hg) tb (by decide)) (fun e => hne (h.bkInj k b X K g hX hK hg e)))⟩
  · intro k k' X X' g hX hX' hg hg'
    rcases upd_cases hX with ⟨rfl, rfl⟩ | ⟨hne, hY⟩ <;> rcases upd_cases hX' with ⟨rfl, rfl⟩ | ⟨hne', hY'⟩
    · rfl
    · exact absurd hg (hnew k' X' g hne' hY' hg')
    · exact absurd hg' (hnew k X g hne hY hg)
    · exact h.bkInj k k' X X' g hY hY' hg hg'
theorem foot_bkUpd {b : Nat} {K K' : BkD} (hK : D.bk b = some K) {k : Nat} (hk : Foot { D with bk := upd D.bk b K' } k) : Foot D k ∨ K'.sl.ownBlock = some k := by
  rcases hk with rfl | ⟨X, hX⟩ | ⟨X, hX⟩ | ⟨q, X, hX, hg⟩ | ⟨q, X, hX, hg⟩
  · exact .inl (.inl rfl)
  · exact .inl (.inr (.inl ⟨X, hX⟩))
  · rcases upd_cases hX with ⟨rfl, rfl⟩ | ⟨_, hX⟩
    · exact .inl (.inr (.inr (.inl ⟨K, hK⟩)))
    · exact .inl (.inr (.inr (.inl ⟨X, hX⟩)))
  · exact .inl (.inr (.inr (.inr (.inl ⟨q, X, hX, hg⟩))))
  · rcases upd_cases hX with ⟨rfl, rfl⟩ | ⟨_, hX⟩
    · exact .inr hg
    · exact .inl (.inr (.inr (.inr (.inr ⟨q, X, hX, hg⟩))))

/-- A page is another one: nothing else of the family has turned. -/
theorem Fam.pgUpd (h : Fam B w D) {p : Nat} {P P' : PgD} (hP : D.pg p = some P) {w' : World} (hf : Fr B w w') (hk : ∀ k, Foot D k → k ≠ p → P.sl.ownBlock ≠ some k → w'.heap[k]? = w.heap[k]?) (ok : PgOk B w' p P')
    (hnew : ∀ k X g, k ≠ p → D.pg k = some X → X.sl.ownBlock = some g → P'.sl.ownBlock ≠ some g) : Fam B w' { D with pg := upd D.pg p P' } := by
  have tb := h.tPg hP
  have tr : ∀ {g : Nat} {T : TypeId}, Typ w g T → 47 ≠ T → P.sl.ownBlock ≠ some g := fun ht hne e => hne ((h.tPgRow hP e).uniq ht)
  refine ⟨h.base, (hk _ (.inl rfl) (typ_ne h.tFam tb (by decide)) (tr h.tFam (by decide))).trans h.fam, fun k X hX => ?_, fun k K hK => ?_, ?_, h.bkInj, fun k hk => Nat.lt_of_lt_of_le (h.fresh k hk) hf.size⟩
  · rcases upd_cases hX with ⟨rfl, rfl⟩ | ⟨hne, hX⟩
    · exact ok
    · obtain ⟨h1, h2, inner, h3, h4⟩ := h.pg k X hX
      exact ⟨h1, (hk k (.inr (.inl ⟨X, hX⟩)) hne (tr (h.tPg hX) (by decide))).trans h2, inner,
        own_move h3 (fun g hg => hk g (.inr (.inr (.inr (.inl ⟨k, X, hX, hg⟩)))) (typ_ne (h.tPgRow hX hg) tb (by decide)) (fun e => hne (h.pgInj k p X P g hX hP hg e))), h4.move hf⟩
  · obtain ⟨h1, h2, h3⟩ := h.bk k K hK
    exact ⟨h1, (hk k (.inr (.inr (.inl ⟨K, hK⟩))) (typ_ne (h.tBk hK) tb (by decide)) (tr (h.tBk hK) (by decide))).trans h2,
      own_move h3 (fun g hg => hk g (.inr (.inr (.inr (.inr ⟨k, K, hK, hg⟩)))) (typ_ne (h.tBkRow hK hg) tb (by decide)) (tr (h.tBkRow hK hg) (by decide)))⟩
  · intro k k' X X' g hX hX' hg hg'
    rcases upd_cases hX with ⟨rfl, rfl⟩ | ⟨hne, hY⟩ <;> rcases upd_cases hX' with ⟨rfl, rfl⟩ | ⟨hne', hY'⟩
    · rfl
    · exact absurd hg (hnew k' X' g hne' hY' hg')
    · exact absurd hg' (hnew k X g hne hY hg)
    · exact h.pgInj k k' X X' g hY hY' hg hg'
theorem foot_pgUpd {p : Nat} {P P' : PgD} (hP : D.pg p = some P) {k : Nat} (hk : Foot { D with pg := upd D.pg p P' } k) : Foot D k ∨ P'.sl.ownBlock = some k := by
  rcases hk with rfl | ⟨X, hX⟩ | ⟨X, hX⟩ | ⟨q, X, hX, hg⟩ | ⟨q, X, hX, hg⟩
  · exact .inl (.inl rfl)
  · rcases upd_cases hX with ⟨rfl, rfl⟩ | ⟨_, hX⟩
    · exact .inl (.inr (.inl ⟨P, hP⟩))
    · exact .inl (.inr (.inl ⟨X, hX⟩))
  · exact .inl (.inr (.inr (.inl ⟨X, hX⟩)))
  · rcases upd_cases hX with ⟨rfl, rfl⟩ | ⟨_, hX⟩
    · exact .inr hg
    · exact .inl (.inr (.inr (.inr (.inl ⟨q, X, hX, hg⟩))))
  · exact .inl (.inr (.inr (.inr (.inr ⟨q, X, hX, hg⟩))))

/-- A book has another number of cells. -/
theorem Fam.setN (h : Fam B w D) {b : Nat} {K : BkD} (hK : D.bk b = some K) (n : Nat) :
    Fam B (w.setCell ⟨b, 2, none⟩ (.int .i64 n)) { D with bk := upd D.bk b { K with n := n } } ∧ Goes B w D (w.setCell ⟨b, 2, none⟩ (.int .i64 n)) { D with bk := upd D.bk b { K with n := n } } := by
  obtain ⟨h1, h2, h3⟩ := h.bk b K hK
  have hfr : Fr B w (w.setCell ⟨b, 2, none⟩ (.int .i64 n)) := Fr.set _ (h.tBk hK) (by decide) (by decide) h1
  refine ⟨h.bkUpd hK hfr (fun k _ hk _ => set_ne _ hk) ⟨h1, (set_at h2 _).trans rfl, own_move h3 (fun g hg => set_ne _ (typ_ne (h.tBkRow hK hg) (h.tBk hK) (by decide)))⟩ ?_, hfr, fun k hk hn => set_ne _ (fun e => hn (.inr (.inr (.inl ⟨K, by rw [e]; exact hK⟩)))), fun k hk => .inl ?_⟩
  · exact fun k X g hne hX hg e => hne (h.bkInj k b X K g hX hK hg e)
  · exact (foot_bkUpd hK hk).elim id (fun e => .inr (.inr (.inr (.inr ⟨b, K, hK, e⟩))))

/-- A book's page number i is another one. -/
theorem Fam.setPtr (h : Fam B w D) {b i g cap : Nat} {K : BkD} (hK : D.bk b = some K) (hsl : K.sl = .slice (some ⟨g, 0, none⟩) K.pgs.length cap) (p : Nat) :
    Fam B (w.setCell ⟨g, i, none⟩ (ptr p)) { D with bk := upd D.bk b { K with pgs := K.pgs.set i p } } ∧ Goes B w D (w.setCell ⟨g, i, none⟩ (ptr p)) { D with bk := upd D.bk b { K with pgs := K.pgs.set i p } } := by
  obtain ⟨h1, h2, h3⟩ := h.bk b K hK
  have hg : K.sl.ownBlock = some g := by rw [hsl]; rfl
  have tg := h.tBkRow hK hg
  have hfr : Fr B w (w.setCell ⟨g, i, none⟩ (ptr p)) := Fr.set _ tg (by decide) (by decide) (own_typ h3 hg).2
  refine ⟨h.bkUpd hK hfr (fun k _ _ hk => set_ne _ (fun e => hk (by rw [e]; exact hg))) ⟨h1, (set_ne _ (typ_ne (h.tBk hK) tg (by decide))).trans h2, ?_⟩ ?_, hfr, fun k hk hn => set_ne _ (fun e => hn (.inr (.inr (.inr (.inr ⟨b, K, hK, by rw [e]; exact hg⟩))))), fun k hk => .inl ?_⟩
  · rw [hsl] at h3
    have := (h3.stored i (ptr p)).1
    rw [← List.map_set] at this
    show (w.setCell ⟨g, i, none⟩ (ptr p)).ownsRow B 167 1 K.sl (K.pgs.set i p).length ((K.pgs.set i p).map ptr)
    rw [hsl, List.length_set]
    exact this
  · exact fun k X g hne hX hg e => hne (h.bkInj k b X K g hX hK hg e)
  · exact (foot_bkUpd hK hk).elim id (fun e => .inr (.inr (.inr (.inr ⟨b, K, hK, e⟩))))

/-- A book's row of pages is another one: it has grown (in its own row, or into a new one). -/
theorem Fam.setPages (h : Fam B w D) {b : Nat} {K : BkD} (hK : D.bk b = some K) {w1 : World} {v : Value} {ps : List Nat} (hg : w.grownBy w1 K.sl.ownBlock) (ho : w1.ownsRow B 167 1 v ps.length (ps.map ptr))
    (hv : ∀ g, v.ownBlock = some g → K.sl.ownBlock = some g ∨ w.heap.size ≤ g) :
    Fam B (w1.setCell ⟨b, 1, none⟩ v) { D with bk := upd D.bk b { K with sl := v, pgs := ps } } ∧ Goes B w D (w1.setCell ⟨b, 1, none⟩ v) { D with bk := upd D.bk b { K with sl := v, pgs := ps } } := by
  obtain ⟨h1, h2, h3⟩ := h.bk b K hK
  have tb := h.tBk hK
  have keep : ∀ k, k < w.heap.size → K.sl.ownBlock ≠ some k → w1.heap[k]? = w.heap[k]? := fun k hk hn => hg.block k hk (fun e => hn e.symm)
  have hb1 : w1.heap[b]? = w.heap[b]? := keep b tb.lt (fun e => absurd (tb.uniq (h.tBkRow hK e)) (by decide))
  have hfr1 : Fr B w w1 := ⟨hg.os, hg.tape, hg.output, hg.size, fun k hk => keep k hk.1 (fun e => by
    rcases hk.2 with hB | ⟨cs, fr, T, hc, hT, _⟩
    · have := (own_typ h3 e).2; omega
    · have := (h.tBkRow hK e).uniq (Typ.of hc); subst this; exact absurd hT (by decide))⟩
  have hfr : Fr B w (w1.setCell ⟨b, 1, none⟩ v) := hfr1.trans (Fr.set _ (tb.move hb1) (by decide) (by decide) h1)
  have hsame : ∀ k, k < w.heap.size → k ≠ b → K.sl.ownBlock ≠ some k → (w1.setCell ⟨b, 1, none⟩ v).heap[k]? = w.heap[k]? := fun k hk hkb hn => (set_ne _ hkb).trans (keep k hk hn)
  refine ⟨h.bkUpd hK hfr (fun k hF hkb hn => hsame k (h.foot_lt hF).1 hkb hn) ⟨h1, (set_at (hb1.trans h2) _).trans rfl, own_move ho (fun g hg' => set_ne _ (fun e => ?_))⟩ ?_, hfr,
    fun k hk hn => hsame k hk (fun e => hn (.inr (.inr (.inl ⟨K, by rw [e]; exact hK⟩)))) (fun e => hn (.inr (.inr (.inr (.inr ⟨b, K, hK, e⟩))))), fun k hk => ?_⟩
  · subst e; exact absurd ((own_typ ho hg').1.uniq (tb.move hb1)) (by decide)
  · exact fun k X g hne hX hg' e => (hv g e).elim (fun e => hne (h.bkInj k b X K g hX hK hg' e)) (fun e => by have := (h.tBkRow hX hg').lt; omega)
  · exact (foot_bkUpd hK hk).elim .inl (fun e => (hv k e).elim (fun e => .inl (.inr (.inr (.inr (.inr ⟨b, K, hK, e⟩))))) .inr)

/-- A page's row has grown (in its own row, or into a new one). -/
theorem Fam.setCells (h : Fam B w D) {p : Nat} {P : PgD} (hP : D.pg p = some P) {w1 : World} {v : Value} {l : List CD} {inner : List Value} (hg : w.grownBy w1 P.sl.ownBlock) (ho : w1.ownsRow B 47 5 v l.length inner)
    (hc : Fr B w w1 → CellsR B w1 l inner) (hv : ∀ g, v.ownBlock = some g → P.sl.ownBlock = some g ∨ w.heap.size ≤ g) :
    Fam B (w1.setCell ⟨p, 0, none⟩ v) { D with pg := upd D.pg p { P with sl := v, cells := l } } ∧ Goes B w D (w1.setCell ⟨p, 0, none⟩ v) { D with pg := upd D.pg p { P with sl := v, cells := l } } := by
  obtain ⟨h1, h2, inner0, h3, h4⟩ := h.pg p P hP
  have tb := h.tPg hP
  have keep : ∀ k, k < w.heap.size → P.sl.ownBlock ≠ some k → w1.heap[k]? = w.heap[k]? := fun k hk hn => hg.block k hk (fun e => hn e.symm)
  have hb1 : w1.heap[p]? = w.heap[p]? := keep p tb.lt (fun e => absurd (tb.uniq (h.tPgRow hP e)) (by decide))
  have hfr1 : Fr B w w1 := ⟨hg.os, hg.tape, hg.output, hg.size, fun k hk => keep k hk.1 (fun e => by
    rcases hk.2 with hB | ⟨cs, fr, T, hc, hT, _⟩
    · have := (own_typ h3 e).2; omega
    · have := (h.tPgRow hP e).uniq (Typ.of hc); subst this; exact absurd hT (by decide))⟩
  have hfr2 : Fr B w1 (w1.setCell ⟨p, 0, none⟩ v) := Fr.set _ (tb.move hb1) (by decide) (by decide) h1
  have hfr := hfr1.trans hfr2
  have hsame : ∀ k, k < w.heap.size → k ≠ p → P.sl.ownBlock ≠ some k → (w1.setCell ⟨p, 0, none⟩ v).heap[k]? = w.heap[k]? := fun k hk hkb hn => (set_ne _ hkb).trans (keep k hk hn)
  refine ⟨h.pgUpd hP hfr (fun k hF hkb hn => hsame k (h.foot_lt hF).1 hkb hn) ⟨h1, (set_at (hb1.trans h2) _).trans rfl, inner, own_move ho (fun g hg' => set_ne _ (fun e => ?_)), (hc hfr1).move hfr2⟩ ?_, hfr,
    fun k hk hn => hsame k hk (fun e => hn (.inr (.inl ⟨P, by rw [e]; exact hP⟩))) (fun e => hn (.inr (.inr (.inr (.inl ⟨p, P, hP, e⟩))))), fun k hk => ?_⟩
  · subst e; exact absurd ((own_typ ho hg').1.uniq (tb.move hb1)) (by decide)
  · exact fun k X g hne hX hg' e => (hv g e).elim (fun e => hne (h.pgInj k p X P g hX hP hg' e)) (fun e => by have := (h.tPgRow hX hg').lt; omega)
  · exact (foot_pgUpd hP hk).elim .inl (fun e => (hv k e).elim (fun e => .inl (.inr (.inr (.inr (.inl ⟨p, P, hP, e⟩))))) .inr)
end
end Go.Proofs.Ytdgpblhmfkpblaa.Pg
