/- What a family of books is in memory, and how each single write turns it. -/
import Derived.Test.YtdgpblhmfkpblaaPg2
namespace Go.Proofs.Ytdgpblhmfkpblaa.Pg
open Go.RowKit

/-- A page: its row, what its cells say, how many share it. -/
structure PgD where
  sl : Value
  cells : List CD
  sh : Int
/-- A book: its row of pages, the pages' blocks, how many cells, whether it was dropped. -/
structure BkD where
  sl : Value
  pgs : List Nat
  n : Nat
  gone : Bool
/-- A family: its block, how many pages live, pages and books by their blocks. -/
structure FD where
  fam : Nat
  live : Int
  pg : Nat → Option PgD
  bk : Nat → Option BkD
def upd {α : Type} (f : Nat → Option α) (k : Nat) (v : α) : Nat → Option α := fun x => if x = k then some v else f x
theorem upd_same {α : Type} (f : Nat → Option α) (k : Nat) (v : α) : upd f k v k = some v := by simp [upd]
theorem upd_cases {α : Type} {f : Nat → Option α} {k x : Nat} {v y : α} (h : upd f k v x = some y) : (x = k ∧ y = v) ∨ (x ≠ k ∧ f x = some y) := by
  by_cases hk : x = k
  · subst hk; simp [upd] at h; exact .inl ⟨rfl, h.symm⟩
  · simp [upd, hk] at h; exact .inr ⟨hk, h⟩
theorem upd_ne {α : Type} (f : Nat → Option α) {k x : Nat} (v : α) (h : x ≠ k) : upd f k v x = f x := by simp [upd, h]

def ptr (b : Nat) : Value := .pointer (some ⟨b, 0, none⟩)

/-- The blocks that a family's calls may turn. -/
def Foot (D : FD) (k : Nat) : Prop :=
  k = D.fam ∨ (∃ P, D.pg k = some P) ∨ (∃ K, D.bk k = some K) ∨ (∃ p P, D.pg p = some P ∧ P.sl.ownBlock = some k) ∨ (∃ b K, D.bk b = some K ∧ K.sl.ownBlock = some k)

structure PgOk (B : Bd) (w : World) (k : Nat) (P : PgD) : Prop where
  base : B ≤ k
  cell : w.heap[k]? = some (.cells #[P.sl, .int .i64 P.sh] 166 (0, 0))
  row : ∃ inner, w.ownsRow B 47 5 P.sl P.cells.length inner ∧ CellsR B w P.cells inner
structure BkOk (B : Bd) (w : World) (fam k : Nat) (K : BkD) : Prop where
  base : B ≤ k
  cell : w.heap[k]? = some (.cells #[ptr fam, K.sl, .int .i64 K.n, .bool K.gone] 171 (0, 0))
  row : w.ownsRow B 167 1 K.sl K.pgs.length (K.pgs.map ptr)

/-- A family in memory. -/
structure Fam (B : Bd) (w : World) (D : FD) : Prop where
  base : B ≤ D.fam
  fam : w.heap[D.fam]? = some (.cells #[.int .i64 D.live] 174 (0, 0))
  pg : ∀ k P, D.pg k = some P → PgOk B w k P
  bk : ∀ k K, D.bk k = some K → BkOk B w D.fam k K
  pgInj : ∀ k k' P P' g, D.pg k = some P → D.pg k' = some P' → P.sl.ownBlock = some g → P'.sl.ownBlock = some g → k = k'
  bkInj : ∀ k k' K K' g, D.bk k = some K → D.bk k' = some K' → K.sl.ownBlock = some g → K'.sl.ownBlock = some g → k = k'
  fresh : ∀ k, B.X k → k < w.heap.size

theorem own_typ {w : World} {base : Nat} {e : TypeId} {size n : Nat} {v : Value} {xs : List Value} (h : w.ownsRow base e size v n xs) {k : Nat} (hk : v.ownBlock = some k) : Typ w k e ∧ base ≤ k := by
  rcases h.2 with ⟨rfl, _⟩ | ⟨g, cap, cur, rfl, hg, hh, r⟩
  · simp [Value.ownBlock] at hk
  · have : g = k := by simpa [Value.ownBlock] using hk
    subst this
    exact ⟨Typ.of hh, hg⟩
theorem own_move {w w1 : World} {base : Nat} {e : TypeId} {size n : Nat} {v : Value} {xs : List Value} (h : w.ownsRow base e size v n xs) (hm : ∀ k, v.ownBlock = some k → w1.heap[k]? = w.heap[k]?) : w1.ownsRow base e size v n xs := by
  obtain ⟨h1, h2⟩ := h
  refine ⟨h1, ?_⟩
  rcases h2 with h2 | ⟨g, cap, cur, rfl, hg, hh, r⟩
  · exact .inl h2
  · exact .inr ⟨g, cap, cur, rfl, hg, (hm g (by simp [Value.ownBlock])).trans hh, r⟩
theorem own_lower {w : World} {base base' : Nat} {e : TypeId} {size n : Nat} {v : Value} {xs : List Value} (h : w.ownsRow base e size v n xs) (hb : base' ≤ base) : w.ownsRow base' e size v n xs := by
  obtain ⟨h1, h2⟩ := h
  refine ⟨h1, ?_⟩
  rcases h2 with h2 | ⟨g, cap, cur, rfl, hg, hh, r⟩
  · exact .inl h2
  · exact .inr ⟨g, cap, cur, rfl, Nat.le_trans hb hg, hh, r⟩

theorem Fam.foot_lt {B : Bd} {w : World} {D : FD} (h : Fam B w D) {k : Nat} (hk : Foot D k) : k < w.heap.size ∧ B ≤ k := by
  rcases hk with rfl | ⟨P, hP⟩ | ⟨K, hK⟩ | ⟨p, P, hP, hk⟩ | ⟨b, K, hK, hk⟩
  · exact ⟨(Typ.of h.fam).lt, h.base⟩
  · exact ⟨(Typ.of (h.pg k P hP).cell).lt, (h.pg k P hP).base⟩
  · exact ⟨(Typ.of (h.bk k K hK).cell).lt, (h.bk k K hK).base⟩
  · obtain ⟨inner, ho, _⟩ := (h.pg p P hP).row
    exact ⟨(own_typ ho hk).1.lt, (own_typ ho hk).2⟩
  · exact ⟨(own_typ (h.bk b K hK).row hk).1.lt, (own_typ (h.bk b K hK).row hk).2⟩

/-- Where no block of the family has turned, it is there yet. -/
theorem Fam.move {B : Bd} {w w' : World} {D : FD} (h : Fam B w D) (hf : Fr B w w') (hk : ∀ k, Foot D k → w'.heap[k]? = w.heap[k]?) : Fam B w' D := by
  refine ⟨h.base, (hk _ (.inl rfl)).trans h.fam, fun k P hP => ?_, fun k K hK => ?_, h.pgInj, h.bkInj, fun k hk => Nat.lt_of_lt_of_le (h.fresh k hk) hf.size⟩
  · obtain ⟨h1, h2, inner, h3, h4⟩ := h.pg k P hP
    exact ⟨h1, (hk k (.inr (.inl ⟨P, hP⟩))).trans h2, inner, own_move h3 (fun g hg => hk g (.inr (.inr (.inr (.inl ⟨k, P, hP, hg⟩))))), h4.move hf⟩
  · obtain ⟨h1, h2, h3⟩ := h.bk k K hK
    exact ⟨h1, (hk k (.inr (.inr (.inl ⟨K, hK⟩)))).trans h2, own_move h3 (fun g hg => hk g (.inr (.inr (.inr (.inr ⟨k, K, hK, hg⟩)))))⟩
theorem Fam.below {B : Bd} {w w' : World} {D : FD} (h : Fam B w D) (hb : Below w.heap.size w w') : Fam B w' D :=
  h.move (Fr.of_below hb) (fun k hk => hb.block k (h.foot_lt hk).1)

/-- What a call of a family's leaves as it was. -/
structure Goes (B : Bd) (w : World) (D : FD) (w' : World) (D' : FD) : Prop where
  fr : Fr B w w'
  keep : ∀ k, k < w.heap.size → ¬ Foot D k → w'.heap[k]? = w.heap[k]?
  foot : ∀ k, Foot D' k → Foot D k ∨ w.heap.size ≤ k
theorem Goes.refl (B : Bd) (w : World) (D : FD) : Goes B w D w D := ⟨Fr.refl _ _, fun _ _ _ => rfl, fun _ h => .inl h⟩
theorem Goes.trans {B : Bd} {w w1 w2 : World} {D D1 D2 : FD} (h : Goes B w D w1 D1) (g : Goes B w1 D1 w2 D2) : Goes B w D w2 D2 :=
  ⟨h.fr.trans g.fr, fun k hk hn => (g.keep k (Nat.lt_of_lt_of_le hk h.fr.size) (fun hf => (h.foot k hf).elim hn (by omega))).trans (h.keep k hk hn),
    fun k hk => (g.foot k hk).elim (h.foot k) (fun h' => .inr (Nat.le_trans h.fr.size h'))⟩
theorem Goes.below {B : Bd} {w w' : World} (D : FD) (hb : Below w.heap.size w w') : Goes B w D w' D := ⟨Fr.of_below hb, fun k hk _ => hb.block k hk, fun _ h => .inl h⟩
/-- Another family stays as it is. -/
theorem Goes.other {B : Bd} {w w' : World} {D D' E : FD} (h : Goes B w D w' D') (hE : Fam B w E) (hd : ∀ k, Foot E k → ¬ Foot D k) : Fam B w' E :=
  hE.move h.fr (fun k hk => h.keep k (hE.foot_lt hk).1 (hd k hk))

theorem set_at {w : World} {k i : Nat} {cs : Array Value} {T : TypeId} {fr : Nat × Nat} (h : w.heap[k]? = some (.cells cs T fr)) (u : Value) : (w.setCell ⟨k, i, none⟩ u).heap[k]? = some (.cells (cs.setIfInBounds i u) T fr) := by
  simp [World.setCell, Array.getElem?_modify, h]
theorem set_ne {w : World} {k k' i : Nat} (u : Value) (h : k' ≠ k) : (w.setCell ⟨k, i, none⟩ u).heap[k']? = w.heap[k']? := Below.heap_setCell _ _ _ _ h

section
variable {B : Bd} {w : World} {D : FD}
theorem Fam.tFam (h : Fam B w D) : Typ w D.fam 174 := Typ.of h.fam
theorem Fam.tPg (h : Fam B w D) {k : Nat} {P : PgD} (hP : D.pg k = some P) : Typ w k 166 := Typ.of (h.pg k P hP).cell
theorem Fam.tBk (h : Fam B w D) {k : Nat} {K : BkD} (hK : D.bk k = some K) : Typ w k 171 := Typ.of (h.bk k K hK).cell
theorem Fam.tPgRow (h : Fam B w D) {k g : Nat} {P : PgD} (hP : D.pg k = some P) (hg : P.sl.ownBlock = some g) : Typ w g 47 := by
  obtain ⟨inner, ho, _⟩ := (h.pg k P hP).row; exact (own_typ ho hg).1
theorem Fam.tBkRow (h : Fam B w D) {k g : Nat} {K : BkD} (hK : D.bk k = some K) (hg : K.sl.ownBlock = some g) : Typ w g 167 := (own_typ (h.bk k K hK).row hg).1

theorem typ_ne {w : World} {a b : Nat} {T T' : TypeId} (h : Typ w a T) (h' : Typ w b T') (hne : T ≠ T') : a ≠ b := by rintro rfl; exact hne (h.uniq h')

/-- How many pages live is another number. -/
theorem Fam.setLive (h : Fam B w D) (l : Int) : Fam B (w.setCell ⟨D.fam, 0, none⟩ (.int .i64 l)) { D with live := l } ∧ Goes B w D (w.setCell ⟨D.fam, 0, none⟩ (.int .i64 l)) { D with live := l } := by
  have hfr : Fr B w (w.setCell ⟨D.fam, 0, none⟩ (.int .i64 l)) := Fr.set _ h.tFam (by decide) (by decide) h.base
  refine ⟨⟨h.base, (set_at h.fam _).trans rfl, fun k P hP => ?_, fun k K hK => ?_, h.pgInj, h.bkInj, fun k hk => Nat.lt_of_lt_of_le (h.fresh k hk) hfr.size⟩, hfr, fun k hk hn => set_ne _ (fun e => hn (.inl e)), fun k hk => .inl hk⟩
  · obtain ⟨h1, h2, inner, h3, h4⟩ := h.pg k P hP
    exact ⟨h1, (set_ne _ (typ_ne (h.tPg hP) h.tFam (by decide))).trans h2, inner, own_move h3 (fun g hg => set_ne _ (typ_ne (h.tPgRow hP hg) h.tFam (by decide))), h4.move hfr⟩
  · obtain ⟨h1, h2, h3⟩ := h.bk k K hK
    exact ⟨h1, (set_ne _ (typ_ne (h.tBk hK) h.tFam (by decide))).trans h2, own_move h3 (fun g hg => set_ne _ (typ_ne (h.tBkRow hK hg) h.tFam (by decide)))⟩

/-- A page is shared by another number of books. -/
theorem Fam.setShares (h : Fam B w D) {p : Nat} {P : PgD} (hP : D.pg p = some P) (s : Int) :
    Fam B (w.setCell ⟨p, 1, none⟩ (.int .i64 s)) { D with pg := upd D.pg p { P with sh := s } } ∧ Goes B w D (w.setCell ⟨p, 1, none⟩ (.int .i64 s)) { D with pg := upd D.pg p { P with sh := s } } := by
  have hfr : Fr B w (w.setCell ⟨p, 1, none⟩ (.int .i64 s)) := Fr.set _ (h.tPg hP) (by decide) (by decide) (h.pg p P hP).base
  have hsl : ∀ k X, upd D.pg p { P with sh := s } k = some X → ∃ Y, D.pg k = some Y ∧ Y.sl = X.sl := fun k X hX => by
    rcases upd_cases hX with ⟨rfl, rfl⟩ | ⟨_, hX⟩
    · exact ⟨P, hP, rfl⟩
    · exact ⟨X, hX, rfl⟩
  refine ⟨⟨h.base, (set_ne _ (typ_ne h.tFam (h.tPg hP) (by decide))).trans h.fam, fun k X hX => ?_, fun k K hK => ?_, ?_, h.bkInj, fun k hk => Nat.lt_of_lt_of_le (h.fresh k hk) hfr.size⟩, hfr, fun k hk hn => set_ne _ (fun e => hn (.inr (.inl ⟨P, by rw [e]; exact hP⟩))), ?_⟩
  · rcases upd_cases hX with ⟨rfl, rfl⟩ | ⟨hk, hX⟩
    · obtain ⟨h1, h2, inner, h3, h4⟩ := h.pg k P hP
      exact ⟨h1, (set_at h2 _).trans rfl, inner, own_move h3 (fun g hg => set_ne _ (typ_ne (h.tPgRow hP hg) (h.tPg hP) (by decide))), h4.move hfr⟩
    · obtain ⟨h1, h2, inner, h3, h4⟩ := h.pg k X hX
      exact ⟨h1, (set_ne _ hk).trans h2, inner, own_move h3 (fun g hg => set_ne _ (typ_ne (h.tPgRow hX hg) (h.tPg hP) (by decide))), h4.move hfr⟩
  · obtain ⟨h1, h2, h3⟩ := h.bk k K hK
    exact ⟨h1, (set_ne _ (typ_ne (h.tBk hK) (h.tPg hP) (by decide))).trans h2, own_move h3 (fun g hg => set_ne _ (typ_ne (h.tBkRow hK hg) (h.tPg hP) (by decide)))⟩
  · intro k k' X X' g hX hX' hg hg'
    obtain ⟨Y, hY, e⟩ := hsl k X hX
    obtain ⟨Y', hY', e'⟩ := hsl k' X' hX'
    exact h.pgInj k k' Y Y' g hY hY' (by rw [e]; exact hg) (by rw [e']; exact hg')
  · intro k hk
    refine .inl ?_
    rcases hk with rfl | ⟨X, hX⟩ | ⟨K, hK⟩ | ⟨q, X, hX, hg⟩ | hb
    · exact .inl rfl
    · obtain ⟨Y, hY, _⟩ := hsl k X hX; exact .inr (.inl ⟨Y, hY⟩)
    · exact .inr (.inr (.inl ⟨K, hK⟩))
    · obtain ⟨Y, hY, e⟩ := hsl q X hX; exact .inr (.inr (.inr (.inl ⟨q, Y, hY, by rw [e]; exact hg⟩)))
    · exact .inr (.inr (.inr (.inr hb)))

/-- One more page, in new memory. -/
theorem Fam.addPage (h : Fam B w D) {v : Value} {l : List CD} {inner : List Value} (s : Int) (hB : B ≤ w.heap.size) (ho : w.ownsRow B 47 5 v l.length inner) (hc : CellsR B w l inner)
    (hnew : ∀ k P g, D.pg k = some P → P.sl.ownBlock = some g → v.ownBlock ≠ some g) :
    Fam B (w.alloc (.cells #[v, .int .i64 s] 166)) { D with pg := upd D.pg w.heap.size { sl := v, cells := l, sh := s } } ∧
      (∀ k, Foot { D with pg := upd D.pg w.heap.size { sl := v, cells := l, sh := s } } k → Foot D k ∨ k = w.heap.size ∨ v.ownBlock = some k) := by
  have hb : Below w.heap.size w (w.alloc (.cells #[v, .int .i64 s] 166)) := (Below.refl _ _).alloc (Nat.le_refl _) _
  have h' := h.below hb
  have hfr : Fr B w (w.alloc (.cells #[v, .int .i64 s] 166)) := Fr.alloc _
  have hold : ∀ k P, D.pg k = some P → k ≠ w.heap.size := fun k P hP => Nat.ne_of_lt (h.tPg hP).lt
  refine ⟨⟨h.base, h'.fam, fun k X hX => ?_, h'.bk, ?_, h.bkInj, h'.fresh⟩, ?_⟩
  · rcases upd_cases hX with ⟨rfl, rfl⟩ | ⟨hk, hX⟩
    · exact ⟨hB, heap_alloc_new w _, inner, own_move ho (fun g hg => hb.block g (own_typ ho hg).1.lt), hc.move hfr⟩
    · exact h'.pg k X hX
  · intro k k' X X' g hX hX' hg hg'
    rcases upd_cases hX with ⟨rfl, rfl⟩ | ⟨hk, hX⟩ <;> rcases upd_cases hX' with ⟨rfl, rfl⟩ | ⟨hk', hX'⟩
    · rfl
    · exact absurd hg (hnew k' X' g hX' hg')
    · exact absurd hg' (hnew k X g hX hg)
    · exact h.pgInj k k' X X' g hX hX' hg hg'
  · intro k hk
    rcases hk with rfl | ⟨X, hX⟩ | ⟨K, hK⟩ | ⟨q, X, hX, hg⟩ | hb'
    · exact .inl (.inl rfl)
    · rcases upd_cases hX with ⟨hk, _⟩ | ⟨_, hX⟩
      · exact .inr (.inl hk)
      · exact .inl (.inr (.inl ⟨X, hX⟩))
    · exact .inl (.inr (.inr (.inl ⟨K, hK⟩)))
    · rcases upd_cases hX with ⟨_, rfl⟩ | ⟨_, hX⟩
      · exact .inr (.inr hg)
      · exact .inl (.inr (.inr (.inr (.inl ⟨q, X, hX, hg⟩))))
    · exact .inl (.inr (.inr (.inr (.inr hb'))))
end
end Go.Proofs.Ytdgpblhmfkpblaa.Pg
