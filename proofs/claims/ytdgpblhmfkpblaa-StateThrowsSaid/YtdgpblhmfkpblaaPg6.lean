/- Contract of mine: a page that no other book has. -/
import Derived.Test.YtdgpblhmfkpblaaPg5
namespace Go.Proofs.Ytdgpblhmfkpblaa.Pg
open Go.RowKit

/-- A book's page number i is a copy of its own from now on. -/
def mined (D : FD) (b : Nat) (K : BkD) (i p : Nat) (P : PgD) (p' : Nat) (v : Value) : FD :=
  { D with live := D.live + 1, pg := upd (upd D.pg p { P with sh := P.sh - 1 }) p' { sl := v, cells := P.cells, sh := 1 }, bk := upd D.bk b { K with pgs := K.pgs.set i p' } }

section
variable {B : Bd} {w : World} {D : FD} {b p : Nat} {K : BkD} {P : PgD}

/-- A book's row of pages, where it has one. -/
theorem BkOk.row_at {F i : Nat} (h : BkOk B w F b K) (hi : K.pgs[i]? = some p) : ∃ g cap, K.sl = .slice (some ⟨g, 0, none⟩) K.pgs.length cap ∧ i < K.pgs.length ∧ w.cell? ⟨g, i, none⟩ = some (ptr p) ∧ w.frozen? ⟨g, i, none⟩ = false := by
  have hlt := (List.getElem?_eq_some_iff.1 hi).1
  have ho := h.row
  rcases ho.2 with ⟨_, h0⟩ | ⟨g, cap, cur, e, _⟩
  · omega
  · refine ⟨g, cap, e, hlt, ?_, ?_⟩
    · have := ho.cells (g := g) (by rw [e]; rfl) i (ptr p) (by rw [List.getElem?_map, hi]; rfl)
      rw [show (⟨g, 0, none⟩ : Addr).add i = ⟨g, i, none⟩ by unfold Addr.add; split <;> simp_all] at this
      exact this
    · rw [e] at ho; exact ho.frozenAt i

set_option maxHeartbeats 400000 in
set_option maxRecDepth 100000 in
theorem mine_one (h : Fam B w D) (hK : D.bk b = some K) {i : Int} (h0 : 0 ≤ i) (hi : K.pgs[i.toNat]? = some p) (hP : D.pg p = some P) (hs : P.sh ≤ 1) :
    Calls Try.prog 113 #[ptr b, .int .i64 i] w fun e w' => e = .returned (ptr p) ∧ w' = w := by
  obtain ⟨j, rfl⟩ := Int.eq_ofNat_of_zero_le h0
  rw [Int.toNat_natCast] at hi
  obtain ⟨c0, c1, c2, c3, cf⟩ := (h.bk b K hK).reads
  obtain ⟨g, cap, e, hlt, cg, fg⟩ := (h.bk b K hK).row_at hi
  obtain ⟨d0, d1, df⟩ := (h.pg p P hP).reads
  have hle : K.pgs.length ≤ maxLen := by
    rcases (h.bk b K hK).row.2 with ⟨_, h0⟩ | ⟨_, _, _, _, _, _, h1, h2, _⟩
    · omega
    · omega
  unfold maxLen at hle
  rw [e] at c1
  have t0 : decide (1 < P.sh) = false := by simpa using hs
  clear h hK hi hP e cf df
  unfold ptr at *
  go_enter Try.func113, Try.ntmps113
  go_wp2_with fail
  go_ret
  exact ⟨rfl, rfl⟩

set_option maxHeartbeats 800000 in
set_option maxRecDepth 100000 in
theorem mine_more (h : Fam B w D) (hB : B ≤ w.heap.size) (hK : D.bk b = some K) {i : Int} (h0 : 0 ≤ i) (hi : K.pgs[i.toNat]? = some p) (hP : D.pg p = some P) (hs : 1 < P.sh) (hs2 : P.sh ≤ 1000000) (hl0 : 0 ≤ D.live) (hl : D.live ≤ 1000000) (hlen : P.cells.length ≤ 1000000) :
    Calls Try.prog 113 #[ptr b, .int .i64 i] w fun e w' => ∃ p' v, e = .returned (ptr p') ∧ w.heap.size ≤ p' ∧ Fam B w' (mined D b K i.toNat p P p' v) ∧ Goes B w D w' (mined D b K i.toNat p P p' v) := by
  obtain ⟨j, rfl⟩ := Int.eq_ofNat_of_zero_le h0
  rw [Int.toNat_natCast] at hi ⊢
  obtain ⟨c0, c1, c2, c3, cf⟩ := (h.bk b K hK).reads
  obtain ⟨g, cap, e, hlt, cg, fg⟩ := (h.bk b K hK).row_at hi
  obtain ⟨d0, d1, df⟩ := (h.pg p P hP).reads
  have hle : K.pgs.length ≤ maxLen := by
    rcases (h.bk b K hK).row.2 with ⟨_, h0⟩ | ⟨_, _, _, _, _, _, h1, h2, _⟩
    · omega
    · omega
  unfold maxLen at hle
  obtain ⟨inner, ho, hc⟩ := (h.pg p P hP).row
  rw [e] at c1
  have t0 : decide (1 < P.sh) = true := by simpa using hs
  have k1 := df 1
  have H := hid h
  have HK := hid hK
  have HP := hid hP
  have HI := hid hi
  have E := hid e
  have HO := hid ho
  have HC := hid hc
  clear h hK hi hP e cf df ho hc
  unfold ptr at *
  go_enter Try.func113, Try.ntmps113
  go_wp2_with fail
  clear c0 c1 c2 c3 cg fg d0 d1 t0 k1 HO HC
  have hA := H.out.setShares HP.out (P.sh - 1)
  generalize (w.setCell ⟨p, 1, none⟩ (.int .i64 (P.sh - 1))) = W1 at hA ⊢
  obtain ⟨hA, gA⟩ := hA
  obtain ⟨inner, ho, hc⟩ := (hA.pg p _ (upd_same _ _ _)).row
  refine (cloneCells_c ho hc hlen).mono ?_
  rintro e' w2 ⟨v, rfl, hb, ho2⟩
  obtain ⟨A, n, c, ev⟩ : ∃ A n c, v = .slice A n c := by
    rcases ho2.2 with ⟨e, _⟩ | ⟨_, _, _, e, _⟩ <;> exact ⟨_, _, _, e⟩
  have hD := hA.below hb
  have sA := gA.fr.size
  have sB := hb.size
  have hbk := hD.bk b K HK.out
  obtain ⟨c0, c1, c2, c3, cf⟩ := hbk.reads
  obtain ⟨g', cap', e2, _, cg, fg⟩ := hbk.row_at HI.out
  obtain ⟨rfl, rfl⟩ : g' = g ∧ cap' = cap := by have := E.out.symm.trans e2; simp at this; exact ⟨this.1.symm, this.2.symm⟩
  rw [E.out] at c1
  obtain ⟨f0, ff⟩ := hD.reads
  have f1 := ff 0
  have n1 : g' ≠ D.fam := typ_ne (hD.tBkRow HK.out (by rw [E.out]; rfl)) hD.tFam (by decide)
  have n2 : b ≠ g' := typ_ne (hD.tBk HK.out) (hD.tBkRow HK.out (by rw [E.out]; rfl)) (by decide)
  have n3 : D.fam ≠ g' := fun e => n1 e.symm
  have l1 : g' < w2.heap.size := (hD.tBkRow HK.out (by rw [E.out]; rfl)).lt
  have l2 : b < w2.heap.size := (hD.tBk HK.out).lt
  have l3 : D.fam < w2.heap.size := hD.tFam.lt
  have HD := hid hD
  have GA := hid gA
  have HA := hid hA
  have HB2 := hid hb
  have HO2 := hid ho2
  have HC2 := hid (hc.move (Fr.of_below hb))
  subst ev
  clear hD hA gA hb ho2 hc ho hbk e2 cf ff
  unfold ptr at *
  go_wp2_with fail
  go_ret
  have hX := HD.out.addPage 1 (v := .slice A n c) (l := P.cells) (by omega) (own_lower HO2.out (by omega)) HC2.out (fun k X g hX hg e => by
    have h1 := (own_typ HO2.out e).2
    have h2 := (HA.out.tPgRow hX hg).lt
    omega)
  have gX : Goes B W1 { D with pg := upd D.pg p { P with sh := P.sh - 1 } } (w2.alloc (.cells #[.slice A n c, .int .i64 1] 166)) _ :=
    ⟨(Fr.of_below HB2.out).trans (Fr.alloc _), fun k hk _ => (heap_alloc_old _ _ (by omega)).trans (HB2.out.block k hk), fun k hk => (hX.2 k hk).elim .inl (fun e => .inr (e.elim (fun e => by omega) (fun e => (own_typ HO2.out e).2)))⟩
  have hY := hX.1.setPtr (b := b) (i := j) HK.out E.out w2.heap.size
  have hZ := hY.1.setLive (D.live + 1)
  have eW : ((w2.alloc (.cells #[.slice A n c, .int .i64 1] 166)).setCell ⟨g', j, none⟩ (ptr w2.heap.size)).setCell ⟨D.fam, 0, none⟩ (.int .i64 (D.live + 1)) =
      ((w2.setCell ⟨g', j, none⟩ (ptr w2.heap.size)).setCell ⟨D.fam, 0, none⟩ (.int .i64 (D.live + 1))).alloc (.cells #[.slice A n c, .int .i64 1] 166) := by
    rw [World.setCell_alloc_past _ _ _ _ l1, World.setCell_alloc_past _ _ _ _ (by simpa using l3)]
  have hZ1 : Fam B (((w2.alloc (.cells #[.slice A n c, .int .i64 1] 166)).setCell ⟨g', j, none⟩ (ptr w2.heap.size)).setCell ⟨D.fam, 0, none⟩ (.int .i64 (D.live + 1))) (mined D b K j p P w2.heap.size (.slice A n c)) := hZ.1
  have hZ2 : Goes B w D (((w2.alloc (.cells #[.slice A n c, .int .i64 1] 166)).setCell ⟨g', j, none⟩ (ptr w2.heap.size)).setCell ⟨D.fam, 0, none⟩ (.int .i64 (D.live + 1))) (mined D b K j p P w2.heap.size (.slice A n c)) := ((GA.out.trans gX).trans hY.2).trans hZ.2
  rw [eW] at hZ1 hZ2
  exact ⟨w2.heap.size, .slice A n c, rfl, by omega, hZ1, hZ2⟩
end
end Go.Proofs.Ytdgpblhmfkpblaa.Pg
