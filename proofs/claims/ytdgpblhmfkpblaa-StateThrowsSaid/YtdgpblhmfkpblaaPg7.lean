/- Contract of Get. -/
import Derived.Test.YtdgpblhmfkpblaaPg6
namespace Go.Proofs.Ytdgpblhmfkpblaa.Pg
open Go.RowKit

/-- A cell, as it is handed around. -/
def aggC (c : CD) (ks vl : Value) : Value := .agg #[.int .i64 c.kind, .int .i64 c.a, .int .i64 c.b, ks, vl]
/-- A cell's rows read as data. -/
structure Reads (B : Bd) (w : World) (c : CD) (ks vl : Value) : Prop where
  k : RowR B w 1 ks (c.keys.map keyRow)
  v : RowR B w 3 vl (c.vals.map VD.row)
theorem Reads.move {B : Bd} {w w' : World} {c : CD} {ks vl : Value} (h : Reads B w c ks vl) (hf : Fr B w w') : Reads B w' c ks vl := ⟨h.k.move hf, h.v.move hf⟩
/-- No cell has more texts or values than that. -/
def CD.small (c : CD) : Prop := c.keys.length ≤ 1000000 ∧ c.vals.length ≤ 1000000
def noCell : CD := ⟨0, 0, 0, [], []⟩

/-- A new cell in memory, where a call's answer will lie. -/
theorem zero_cell {w2 : World} {k : Nat} (q : w2.heap[k]? = some (.cells #[.int .i64 0, .int .i64 0, .int .i64 0, .slice none 0 0, .slice none 0 0] 47 (0, 0))) :
    w2.cell? ⟨k, 0, none⟩ = some (.int .i64 0) ∧ w2.cell? ⟨k, 1, none⟩ = some (.int .i64 0) ∧ w2.cell? ⟨k, 2, none⟩ = some (.int .i64 0) ∧ w2.cell? ⟨k, 3, none⟩ = some (.slice none 0 0) ∧ w2.cell? ⟨k, 4, none⟩ = some (.slice none 0 0) ∧
    w2.frozen? ⟨k, 0, none⟩ = false ∧ w2.frozen? ⟨k, 1, none⟩ = false ∧ w2.frozen? ⟨k, 2, none⟩ = false ∧ w2.frozen? ⟨k, 3, none⟩ = false ∧ w2.frozen? ⟨k, 4, none⟩ = false :=
  ⟨cell_of_row w2 k 0 _ _ _ q, cell_of_row w2 k 1 _ _ _ q, cell_of_row w2 k 2 _ _ _ q, cell_of_row w2 k 3 _ _ _ q, cell_of_row w2 k 4 _ _ _ q, frozen_of_row w2 k 0 _ _ q, frozen_of_row w2 k 1 _ _ q, frozen_of_row w2 k 2 _ _ q, frozen_of_row w2 k 3 _ _ q, frozen_of_row w2 k 4 _ _ q⟩
/-- Five writes into one block that need not stay. -/
theorem Fr.set5 {B : Bd} {w : World} {k : Nat} {o : Nat} {T : TypeId} (u0 u1 u2 u3 u4 : Value) (hT : Typ w k T) (h1 : T ≠ 9) (h2 : immT T = false) (hB : B ≤ k) :
    Fr B w (((((w.setCell ⟨k, o, none⟩ u0).setCell ⟨k, o + 1, none⟩ u1).setCell ⟨k, o + 2, none⟩ u2).setCell ⟨k, o + 3, none⟩ u3).setCell ⟨k, o + 4, none⟩ u4) :=
  ((((Fr.set (p := ⟨k, o, none⟩) u0 hT h1 h2 hB).trans (Fr.set (p := ⟨k, o + 1, none⟩) u1 (hT.set _ _) h1 h2 hB)).trans (Fr.set (p := ⟨k, o + 2, none⟩) u2 ((hT.set _ _).set _ _) h1 h2 hB)).trans
    (Fr.set (p := ⟨k, o + 3, none⟩) u3 (((hT.set _ _).set _ _).set _ _) h1 h2 hB)).trans (Fr.set (p := ⟨k, o + 4, none⟩) u4 ((((hT.set _ _).set _ _).set _ _).set _ _) h1 h2 hB)
theorem Below.set5 {B : Nat} {a w : World} (h : Below B a w) {k o : Nat} (hk : B ≤ k) (u0 u1 u2 u3 u4 : Value) :
    Below B a (((((w.setCell ⟨k, o, none⟩ u0).setCell ⟨k, o + 1, none⟩ u1).setCell ⟨k, o + 2, none⟩ u2).setCell ⟨k, o + 3, none⟩ u3).setCell ⟨k, o + 4, none⟩ u4) :=
  ((((h.setCell hk _).setCell hk _).setCell hk _).setCell hk _).setCell hk _

section
variable {B : Bd} {w : World} {D : FD} {b p : Nat} {K : BkD} {P : PgD}

set_option maxHeartbeats 400000 in
set_option maxRecDepth 100000 in
theorem get_nil (i : Int) (w : World) : Calls Try.prog 73 #[.pointer none, .int .i64 i] w fun e w' => e = .returned (.tuple #[aggC noCell (.slice none 0 0) (.slice none 0 0), .int .i64 2]) ∧ Below w.heap.size w w' := by
  unfold aggC noCell
  go_enter Try.func73, Try.ntmps73
  go_wp2_with (go_at_call 108; refine (has_nil _ _).mono ?_; rintro e w' ⟨rfl, rfl⟩)
  refine bodyPost_ret (v := .tuple #[.agg #[.int .i64 0, .int .i64 0, .int .i64 0, .slice none 0 0, .slice none 0 0], .int .i64 2]) (by simp [results, Try.results73, go_sem]) rfl ⟨rfl, ?_⟩
  exact (Below.refl _ _).alloc (Nat.le_refl _) _
set_option maxHeartbeats 400000 in
set_option maxRecDepth 100000 in
theorem get_no (h : Fam B w D) (hK : D.bk b = some K) (i : Int) (hi : i < 0 ∨ (K.n : Int) ≤ i) :
    Calls Try.prog 73 #[ptr b, .int .i64 i] w fun e w' => e = .returned (.tuple #[aggC noCell (.slice none 0 0) (.slice none 0 0), .int .i64 2]) ∧ Below w.heap.size w w' := by
  have H := hid h
  have HK := hid hK
  have HI := hid hi
  clear h hK hi
  unfold aggC noCell ptr
  go_enter Try.func73, Try.ntmps73
  go_wp2_with (go_at_call 108; refine (has_no (H.out.below ((Below.refl _ _).alloc (Nat.le_refl _) _)) HK.out _ HI.out).mono ?_; rintro e w' ⟨rfl, rfl⟩)
  refine bodyPost_ret (v := .tuple #[.agg #[.int .i64 0, .int .i64 0, .int .i64 0, .slice none 0 0, .slice none 0 0], .int .i64 2]) (by simp [results, Try.results73, go_sem]) rfl ⟨rfl, ?_⟩
  exact (Below.refl _ _).alloc (Nat.le_refl _) _

/-- What a walk reads of a page's cell. -/
theorem PgOk.cell_at {i : Nat} {c : CD} (h : PgOk B w p P) (hc : P.cells[i]? = some c) : ∃ g cap ks vl, P.sl = .slice (some ⟨g, 0, none⟩) P.cells.length cap ∧ P.cells.length ≤ cap ∧ cap ≤ maxLen ∧ Reads B w c ks vl ∧
    w.cell? ⟨g, i * 5, none⟩ = some (.int .i64 c.kind) ∧ w.cell? ⟨g, i * 5 + 1, none⟩ = some (.int .i64 c.a) ∧ w.cell? ⟨g, i * 5 + 2, none⟩ = some (.int .i64 c.b) ∧ w.cell? ⟨g, i * 5 + 3, none⟩ = some ks ∧ w.cell? ⟨g, i * 5 + 4, none⟩ = some vl ∧ (∀ j, w.frozen? ⟨g, j, none⟩ = false) := by
  obtain ⟨inner, ho, hr⟩ := h.row
  have hlt := (List.getElem?_eq_some_iff.1 hc).1
  obtain ⟨v, ⟨ks, vl, rfl, hk, hv⟩, hcell⟩ := hr.get i c hc
  rcases ho.2 with ⟨_, h0⟩ | ⟨g, cap, cur, e, _, _, h1, h2, _⟩
  · omega
  · have hg : ∀ j u, inner[j]? = some u → w.cell? ⟨g, j, none⟩ = some u := fun j u hu => by
      have := ho.cells (g := g) (by rw [e]; rfl) j u hu
      rw [show (⟨g, 0, none⟩ : Addr).add j = ⟨g, j, none⟩ by unfold Addr.add; split <;> simp_all] at this
      exact this
    refine ⟨g, cap, ks, vl, e, h1, h2, ⟨hk, hv⟩, hg (i * 5) _ (hcell 0 _ rfl), hg _ _ (hcell 1 _ rfl), hg _ _ (hcell 2 _ rfl), hg _ _ (hcell 3 _ rfl), hg _ _ (hcell 4 _ rfl), fun j => ?_⟩
    rw [e] at ho; exact ho.frozenAt j

set_option maxHeartbeats 800000 in
set_option maxRecDepth 100000 in
theorem get_yesO (h : Fam B w D) (hB : B ≤ w.heap.size) (hK : D.bk b = some K) (i : Int) (h0 : 0 ≤ i) (hi : i < K.n) (hp : K.pgs[i.toNat / 8]? = some p) (hP : D.pg p = some P) {c : CD} (hc : P.cells[i.toNat % 8]? = some c) (hs : c.small) :
    Calls Try.prog 73 #[ptr b, .int .i64 i] w fun e w' => ∃ ks vl, e = .returned (.tuple #[aggC c ks vl, .int .i64 0]) ∧ Below w.heap.size w w' ∧ Reads B w' c ks vl ∧ w'.ownsRow w.heap.size 33 3 vl c.vals.length (c.vals.map VD.row).flatten := by
  obtain ⟨j, rfl⟩ := Int.eq_ofNat_of_zero_le h0
  rw [Int.toNat_natCast] at hp hc
  have H := hid h
  have HK := hid hK
  obtain ⟨c0, c1, c2, c3, cf⟩ := (h.bk b K hK).reads
  obtain ⟨g, cap, e, hlt, cg, fg⟩ := (h.bk b K hK).row_at hp
  obtain ⟨d0, d1, df⟩ := (h.pg p P hP).reads
  obtain ⟨gp, capp, ks, vl, ep, hle1, hle2, hr, x0, x1, x2, x3, x4, _⟩ := (h.pg p P hP).cell_at hc
  have hlc := (List.getElem?_eq_some_iff.1 hc).1
  have hle : K.pgs.length ≤ maxLen := by
    rcases (h.bk b K hK).row.2 with ⟨_, h0⟩ | ⟨_, _, _, _, _, _, h1, h2, _⟩
    · omega
    · omega
  unfold maxLen at hle hle2
  rw [e] at c1
  rw [ep] at d0
  have lb : b < w.heap.size := (h.tBk hK).lt
  have lg : g < w.heap.size := (h.tBkRow hK (by rw [e]; rfl)).lt
  have lp : p < w.heap.size := (h.tPg hP).lt
  have lgp : gp < w.heap.size := (h.tPgRow hP (by rw [ep]; rfl)).lt
  have HR := hid hr
  have HI := hid hi
  clear h hK hp hP hc e ep cf df hr fg
  unfold ptr aggC at *
  go_enter Try.func73, Try.ntmps73
  go_wp2_with (go_at_call 108; refine (has_yes (H.out.below ((Below.refl _ _).alloc (Nat.le_refl _) _)) HK.out _ h0 HI.out).mono ?_; rintro e w' ⟨rfl, rfl⟩)
  have HRa := hid (HR.out.move (Fr.alloc (B := B) (.cells #[.int .i64 0, .int .i64 0, .int .i64 0, .slice none 0 0, .slice none 0 0] 47)))
  go_wp2_with fail
  refine (own_callsO (B := B) (by simp; omega) (by intro k hk; have := H.out.fresh k hk; simp; omega) HRa.out.k HRa.out.v hs.1 hs.2).mono ?_
  rintro e' w2 ⟨ks', vl', rfl, hb, hk', hv', ho'⟩
  obtain ⟨A1, n1, p1, e1, -⟩ := id hk'
  obtain ⟨A2, n2, p2, e2, -⟩ := id hv'
  subst e1 e2
  have q := (hb.block w.heap.size (by simp)).trans (heap_alloc_new w _)
  obtain ⟨y0, y1, y2, y3, y4, z0, z1, z2, z3, z4⟩ := zero_cell q
  have Q := hid q
  have HB := hid hb
  have HR' := hid (Reads.mk hk' hv')
  have HO' := hid ho'
  clear q hb hk' hv' ho' x0 x1 x2 x3 x4 d0 d1 cg c0 c1 c2 c3
  go_wp2_with fail
  have F := Fr.set5 (B := B) (w := w2) (k := w.heap.size) (o := 0) (.int .i64 c.kind) (.int .i64 c.a) (.int .i64 c.b) (.slice A1 n1 p1) (.slice A2 n2 p2) (Typ.of Q.out) (by decide) (by decide) hB
  refine bodyPost_ret (v := .tuple #[.agg #[.int .i64 c.kind, .int .i64 c.a, .int .i64 c.b, .slice A1 n1 p1, .slice A2 n2 p2], .int .i64 0]) (by simp [results, Try.results73, go_sem, y0, y1, y2, y3, y4]) rfl ⟨_, _, rfl, ?_, HR'.out.move F, own_low (own_set (own_set (own_set (own_set (own_set HO'.out (by simp) _ _) (by simp) _ _) (by simp) _ _) (by simp) _ _) (by simp) _ _) (by simp)⟩
  exact Below.set5 (((Below.refl _ _).alloc (Nat.le_refl _) _).trans (HB.out.mono (by simp))) (Nat.le_refl _) _ _ _ _ _
theorem get_yes (h : Fam B w D) (hB : B ≤ w.heap.size) (hK : D.bk b = some K) (i : Int) (h0 : 0 ≤ i) (hi : i < K.n) (hp : K.pgs[i.toNat / 8]? = some p) (hP : D.pg p = some P) {c : CD} (hc : P.cells[i.toNat % 8]? = some c) (hs : c.small) :
    Calls Try.prog 73 #[ptr b, .int .i64 i] w fun e w' => ∃ ks vl, e = .returned (.tuple #[aggC c ks vl, .int .i64 0]) ∧ Below w.heap.size w w' ∧ Reads B w' c ks vl := by
  refine (get_yesO h hB hK i h0 hi hp hP hc hs).mono ?_
  rintro e w' ⟨ks', vl', rfl, h1, h2, _⟩
  exact ⟨ks', vl', rfl, h1, h2⟩
end
end Go.Proofs.Ytdgpblhmfkpblaa.Pg
