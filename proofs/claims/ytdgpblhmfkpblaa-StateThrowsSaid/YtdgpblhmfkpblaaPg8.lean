/- Contract of Set; mine in one. -/
import Derived.Test.YtdgpblhmfkpblaaPg7
namespace Go.Proofs.Ytdgpblhmfkpblaa.Pg
open Go.RowKit

/-- What mine does: nothing, or a page more that is the book's own. -/
inductive MineRel (D : FD) (b : Nat) (K : BkD) (i p : Nat) (P : PgD) : FD → Nat → PgD → Prop
  | one (hs : P.sh ≤ 1) : MineRel D b K i p P D p P
  | more (hs : 1 < P.sh) (p' : Nat) (v : Value) (hp : D.pg p' = none) : MineRel D b K i p P (mined D b K i p P p' v) p' { sl := v, cells := P.cells, sh := 1 }

theorem MineRel.cells {D : FD} {b : Nat} {K : BkD} {i p : Nat} {P : PgD} {D' : FD} {p' : Nat} {P' : PgD} (h : MineRel D b K i p P D' p' P') : P'.cells = P.cells := by cases h <;> rfl
theorem MineRel.at_ {D : FD} {b : Nat} {K : BkD} {i p : Nat} {P : PgD} {D' : FD} {p' : Nat} {P' : PgD} (h : MineRel D b K i p P D' p' P') (hP : D.pg p = some P) : D'.pg p' = some P' := by
  cases h
  · exact hP
  · exact upd_same _ _ _
theorem MineRel.bk {D : FD} {b : Nat} {K : BkD} {i p : Nat} {P : PgD} {D' : FD} {p' : Nat} {P' : PgD} (h : MineRel D b K i p P D' p' P') (hK : D.bk b = some K) (hi : K.pgs[i]? = some p) : D'.bk b = some { K with pgs := K.pgs.set i p' } := by
  cases h
  · rw [hK]
    have : K.pgs.set i p = K.pgs := by
      apply List.ext_getElem?
      intro j
      rw [List.getElem?_set]
      split
      · rename_i e; subst e
        rw [if_pos (List.getElem?_eq_some_iff.1 hi).1, hi]
      · rfl
    rw [this]
  · exact upd_same _ _ _

section
variable {B : Bd} {w : World} {D : FD} {b p : Nat} {K : BkD} {P : PgD}

theorem mine_c (h : Fam B w D) (hB : B ≤ w.heap.size) (hK : D.bk b = some K) {i : Int} (h0 : 0 ≤ i) (hi : K.pgs[i.toNat]? = some p) (hP : D.pg p = some P) (hs2 : P.sh ≤ 1000000) (hl0 : 0 ≤ D.live) (hl : D.live ≤ 1000000) (hlen : P.cells.length ≤ 1000000) :
    Calls Try.prog 113 #[ptr b, .int .i64 i] w fun e w' => ∃ D' p' P', e = .returned (.pointer (some ⟨p', 0, none⟩)) ∧ MineRel D b K i.toNat p P D' p' P' ∧ Fam B w' D' ∧ Goes B w D w' D' := by
  by_cases hs : P.sh ≤ 1
  · refine (mine_one h hK h0 hi hP hs).mono ?_
    rintro e w' ⟨rfl, rfl⟩
    exact ⟨D, p, P, rfl, .one hs, h, Goes.refl _ _ _⟩
  · refine (mine_more h hB hK h0 hi hP (by omega) hs2 hl0 hl hlen).mono ?_
    rintro e w' ⟨p', v, rfl, hp', hF, hG⟩
    refine ⟨_, p', _, rfl, .more (by omega) p' v ?_, hF, hG⟩
    cases hq : D.pg p' with
    | none => rfl
    | some X => have := (h.tPg hq).lt; omega

theorem set5_list {α : Type} (l : List α) (o : Nat) (a b c d e : α) (h : o + 5 ≤ l.length) : ((((l.set o a).set (o + 1) b).set (o + 2) c).set (o + 3) d).set (o + 4) e = l.take o ++ [a, b, c, d, e] ++ l.drop (o + 5) := by
  apply List.ext_getElem?
  intro j
  simp only [List.getElem?_set, List.length_set, List.append_assoc]
  by_cases h1 : j < o
  · rw [List.getElem?_append_left (by rw [List.length_take]; omega), List.getElem?_take]
    rw [if_neg (by omega), if_neg (by omega), if_neg (by omega), if_neg (by omega), if_neg (by omega), if_pos h1]
  · rw [List.getElem?_append_right (by rw [List.length_take]; omega), List.length_take, Nat.min_eq_left (by omega)]
    by_cases h2 : j < o + 5
    · obtain ⟨k, rfl⟩ : ∃ k, j = o + k := ⟨j - o, by omega⟩
      rw [show o + k - o = k by omega]
      rcases (by omega : k = 0 ∨ k = 1 ∨ k = 2 ∨ k = 3 ∨ k = 4) with rfl | rfl | rfl | rfl | rfl <;> simp <;> omega
    · rw [if_neg (by omega), if_neg (by omega), if_neg (by omega), if_neg (by omega), if_neg (by omega)]
      rw [List.getElem?_append_right (by simp; omega), List.getElem?_drop]
      congr 1; simp; omega

/-- A page's cell number i is another one. -/
theorem Fam.setCell (h : Fam B w D) (hP : D.pg p = some P) {i g cap : Nat} (hi : i < P.cells.length) (hsl : P.sl = .slice (some ⟨g, 0, none⟩) P.cells.length cap) {c : CD} {ks vl : Value} (hr : Reads B w c ks vl) :
    Fam B (((((w.setCell ⟨g, i * 5, none⟩ (.int .i64 c.kind)).setCell ⟨g, i * 5 + 1, none⟩ (.int .i64 c.a)).setCell ⟨g, i * 5 + 2, none⟩ (.int .i64 c.b)).setCell ⟨g, i * 5 + 3, none⟩ ks).setCell ⟨g, i * 5 + 4, none⟩ vl) { D with pg := upd D.pg p { P with cells := P.cells.set i c } } ∧
      Goes B w D (((((w.setCell ⟨g, i * 5, none⟩ (.int .i64 c.kind)).setCell ⟨g, i * 5 + 1, none⟩ (.int .i64 c.a)).setCell ⟨g, i * 5 + 2, none⟩ (.int .i64 c.b)).setCell ⟨g, i * 5 + 3, none⟩ ks).setCell ⟨g, i * 5 + 4, none⟩ vl) { D with pg := upd D.pg p { P with cells := P.cells.set i c } } := by
  obtain ⟨h1, h2, inner, h3, h4⟩ := h.pg p P hP
  have hg : P.sl.ownBlock = some g := by rw [hsl]; rfl
  have tg := h.tPgRow hP hg
  have hfr := Fr.set5 (B := B) (o := i * 5) (.int .i64 c.kind) (.int .i64 c.a) (.int .i64 c.b) ks vl tg (by decide) (by decide) (own_typ h3 hg).2
  have hne : ∀ k, k ≠ g → (((((w.setCell ⟨g, i * 5, none⟩ (.int .i64 c.kind)).setCell ⟨g, i * 5 + 1, none⟩ (.int .i64 c.a)).setCell ⟨g, i * 5 + 2, none⟩ (.int .i64 c.b)).setCell ⟨g, i * 5 + 3, none⟩ ks).setCell ⟨g, i * 5 + 4, none⟩ vl).heap[k]? = w.heap[k]? := fun k hk =>
    (set_ne _ hk).trans ((set_ne _ hk).trans ((set_ne _ hk).trans ((set_ne _ hk).trans (set_ne _ hk))))
  have hil : i * 5 + 5 ≤ inner.length := by rw [h4.length]; omega
  refine ⟨h.pgUpd hP hfr (fun k _ _ hk => hne k (fun e => hk (by rw [e]; exact hg))) ⟨h1, (hne p (typ_ne (h.tPg hP) tg (by decide))).trans h2, inner.take (i * 5) ++ [.int .i64 c.kind, .int .i64 c.a, .int .i64 c.b, ks, vl] ++ inner.drop (i * 5 + 5), ?_, ?_⟩ ?_, hfr, fun k hk hn => hne k (fun e => hn (.inr (.inr (.inr (.inl ⟨p, P, hP, by rw [e]; exact hg⟩))))), fun k hk => .inl ?_⟩
  · rw [hsl] at h3
    have := ((((h3.stored (i * 5) (.int .i64 c.kind)).1.stored (i * 5 + 1) (.int .i64 c.a)).1.stored (i * 5 + 2) (.int .i64 c.b)).1.stored (i * 5 + 3) ks).1.stored (i * 5 + 4) vl
    have := this.1
    rw [set5_list _ _ _ _ _ _ _ hil] at this
    show World.ownsRow _ B 47 5 P.sl (P.cells.set i c).length _
    rw [hsl, List.length_set]
    exact this
  · exact (h4.set i c _ hi ⟨ks, vl, rfl, hr.k, hr.v⟩).move hfr
  · exact fun k X g' hne' hX hg' e => hne' (h.pgInj k p X P g' hX hP hg' e)
  · exact (foot_pgUpd hP hk).elim id (fun e => .inr (.inr (.inr (.inl ⟨p, P, hP, e⟩))))

set_option maxHeartbeats 400000 in
set_option maxRecDepth 100000 in
theorem set_nil (i : Int) (c : CD) (ks vl : Value) (w : World) : Calls Try.prog 106 #[.pointer none, .int .i64 i, aggC c ks vl] w fun e w' => e = .returned (.int .i64 2) ∧ Below w.heap.size w w' := by
  unfold aggC
  go_enter Try.func106, Try.ntmps106
  go_wp2_with (go_at_call 108; refine (has_nil _ _).mono ?_; rintro e w' ⟨rfl, rfl⟩)
  go_ret
  exact ⟨rfl, (Below.refl _ _).alloc (Nat.le_refl _) _⟩
set_option maxHeartbeats 400000 in
set_option maxRecDepth 100000 in
theorem set_no (h : Fam B w D) (hK : D.bk b = some K) (i : Int) (hi : i < 0 ∨ (K.n : Int) ≤ i) (c : CD) (ks vl : Value) :
    Calls Try.prog 106 #[ptr b, .int .i64 i, aggC c ks vl] w fun e w' => e = .returned (.int .i64 2) ∧ Below w.heap.size w w' := by
  have H := hid h
  have HK := hid hK
  have HI := hid hi
  clear h hK hi
  unfold aggC ptr
  go_enter Try.func106, Try.ntmps106
  go_wp2_with (go_at_call 108; refine (has_no (H.out.below ((Below.refl _ _).alloc (Nat.le_refl _) _)) HK.out _ HI.out).mono ?_; rintro e w' ⟨rfl, rfl⟩)
  go_ret
  exact ⟨rfl, (Below.refl _ _).alloc (Nat.le_refl _) _⟩

set_option maxHeartbeats 1600000 in
set_option maxRecDepth 100000 in
theorem set_yes (h : Fam B w D) (hB : B ≤ w.heap.size) (hK : D.bk b = some K) (i : Int) (h0 : 0 ≤ i) (hi : i < K.n) (hn : K.n ≤ 1000000) (hp : K.pgs[i.toNat / 8]? = some p) (hP : D.pg p = some P) (hc : i.toNat % 8 < P.cells.length)
    (hs2 : P.sh ≤ 1000000) (hl0 : 0 ≤ D.live) (hl : D.live ≤ 1000000) (hlen : P.cells.length ≤ 1000000) {c : CD} {ks vl : Value} (hr : Reads B w c ks vl) (hs : c.small) :
    Calls Try.prog 106 #[ptr b, .int .i64 i, aggC c ks vl] w fun e w' => ∃ D1 p' P', e = .returned (.int .i64 0) ∧ MineRel D b K (i.toNat / 8) p P D1 p' P' ∧
      Fam B w' { D1 with pg := upd D1.pg p' { P' with cells := P.cells.set (i.toNat % 8) c } } ∧ Goes B w D w' { D1 with pg := upd D1.pg p' { P' with cells := P.cells.set (i.toNat % 8) c } } := by
  obtain ⟨j, rfl⟩ := Int.eq_ofNat_of_zero_le h0
  rw [Int.toNat_natCast] at hp hc ⊢
  have hj : j ≤ 1000000 := by omega
  have H := hid h
  have HK := hid hK
  have HP := hid hP
  have HI := hid hi
  have Hp := hid hp
  have HR := hid hr
  have HC := hid hc
  clear h hK hP hi hp hr hc
  have bW : Below w.heap.size w (w.alloc (.cells #[.int .i64 c.kind, .int .i64 c.a, .int .i64 c.b, ks, vl] 47)) := (Below.refl _ _).alloc (Nat.le_refl _) _
  have r1 := heap_alloc_new w (.cells #[.int .i64 c.kind, .int .i64 c.a, .int .i64 c.b, ks, vl] 47)
  have l1 : w.heap.size < (w.alloc (.cells #[.int .i64 c.kind, .int .i64 c.a, .int .i64 c.b, ks, vl] 47)).heap.size := by simp
  have BW := hid bW
  clear bW
  unfold aggC ptr
  go_enter Try.func106, Try.ntmps106
  go_wp2_with (go_at_call 108; refine (has_yes (H.out.below BW.out) HK.out _ h0 HI.out).mono ?_; rintro e w' ⟨rfl, rfl⟩)
  generalize (w.alloc (.cells #[.int .i64 c.kind, .int .i64 c.a, .int .i64 c.b, ks, vl] 47)) = W at BW r1 l1 ⊢
  have c0 := (cell_of_row W _ 0 _ _ _ r1).trans (b := some (Value.int IntKind.i64 c.kind)) rfl
  have c1 := (cell_of_row W _ 1 _ _ _ r1).trans (b := some (Value.int IntKind.i64 c.a)) rfl
  have c2 := (cell_of_row W _ 2 _ _ _ r1).trans (b := some (Value.int IntKind.i64 c.b)) rfl
  have c3 := (cell_of_row W _ 3 _ _ _ r1).trans (b := some ks) rfl
  have c4 := (cell_of_row W _ 4 _ _ _ r1).trans (b := some vl) rfl
  clear r1
  have HW := hid ((H.out.below BW.out).below (w' := W.drew) ((Below.refl _ _).drew))
  have nF : ¬ Foot D w.heap.size := fun hf => by have := (H.out.foot_lt hf).1; omega
  have NF := hid nF
  have hBW : B ≤ W.drew.heap.size := by show B ≤ W.heap.size; omega
  clear nF
  have Q0 := hid (show (0 : Int) ≤ (j : Int) / 8 by omega)
  have Q1 := hid (show ((j : Int) / 8).toNat = j / 8 by omega)
  have Q2 : Box (K.pgs[((j : Int) / 8).toNat]? = some p) := ⟨by rw [Q1.out]; exact Hp.out⟩
  have LW := hid (show B ≤ W.heap.size by omega)
  have j0 : 0 ≤ (j : Int) % 8 := by omega
  have j1 : ((j : Int) % 8).toNat = j % 8 := by omega
  have j2 : IntKind.i64.wrap ((j : Int) / 8) = (j : Int) / 8 := IntWalk.i64_in _ (by omega)
  have j3 : ((j : Int)).tmod 8 = (j : Int) % 8 := Int.tmod_eq_emod_of_nonneg (by omega)
  go_region_with (first
    | (go_at_call 113; refine (mine_c HW.out hBW HK.out (i := (j : Int) / 8) Q0.out Q2.out HP.out hs2 hl0 hl hlen).mono ?_; rintro e w1 ⟨D1, p1, P1, rfl, hm, hF, hG⟩;
       rw [Q1.out] at hm;
       have HM := hid hm; have HF := hid hF; have HG := hid hG; clear hm hF hG;
       have k1 := HG.out.keep w.heap.size l1 NF.out;
       have s1 : W.heap.size ≤ w1.heap.size := HG.out.fr.size;
       have d0 : w1.cell? ⟨w.heap.size, 0, none⟩ = _ := (World.cell?_of_block (w := W.drew) k1).trans c0;
       have d1 : w1.cell? ⟨w.heap.size, 1, none⟩ = _ := (World.cell?_of_block (w := W.drew) k1).trans c1;
       have d2 : w1.cell? ⟨w.heap.size, 2, none⟩ = _ := (World.cell?_of_block (w := W.drew) k1).trans c2;
       have d3 : w1.cell? ⟨w.heap.size, 3, none⟩ = _ := (World.cell?_of_block (w := W.drew) k1).trans c3;
       have d4 : w1.cell? ⟨w.heap.size, 4, none⟩ = _ := (World.cell?_of_block (w := W.drew) k1).trans c4;
       clear k1;
       have hP1 := HM.out.at_ HP.out;
       obtain ⟨gp, capp, _, _, ep, q1, q2, _, _, _, _, _, _, _⟩ := (HF.out.pg p1 P1 hP1).cell_at (List.getElem?_eq_getElem (show j % 8 < P1.cells.length from by rw [HM.out.cells]; exact HC.out));
       have x0 := (HF.out.pg p1 P1 hP1).reads.1;
       have lp : p1 < w1.heap.size := (HF.out.tPg hP1).lt;
       have lgp : gp < w1.heap.size := (HF.out.tPgRow hP1 (by rw [ep]; rfl)).lt;
       have hcl : j % 8 < P1.cells.length := (by rw [HM.out.cells]; exact HC.out);
       unfold maxLen at q2;
       rw [ep] at x0;
       have EP := hid ep; have HP1 := hid hP1; clear ep hP1)
    | (go_at_call 109; refine (own_calls (B := B) (Nat.le_trans LW.out s1) (by intro k hk; exact HF.out.fresh k hk) (((HR.out.move (Fr.of_below BW.out)).move Fr.drew).move (HG.out.fr)).k (((HR.out.move (Fr.of_below BW.out)).move Fr.drew).move (HG.out.fr)).v hs.1 hs.2).mono ?_; rintro e w2 ⟨ks', vl', rfl, hb, hk', hv'⟩;
       obtain ⟨A1, n1, p1', e1, -⟩ := id hk'; obtain ⟨A2, n2, p2', e2, -⟩ := id hv'; subst e1 e2;
       have y0 := carry hb lp x0;
       have HB := hid hb; have HR' := hid (Reads.mk (c := c) hk' hv'); clear hb hk' hv';
       obtain ⟨_, _, _, _, ep', _, _, _, z0, z1, z2, z3, z4, zf⟩ := ((HF.out.below HB.out).pg p1 P1 HP1.out).cell_at (List.getElem?_eq_getElem hcl);
       obtain ⟨rfl, rfl⟩ := (by have := EP.out.symm.trans ep'; simp at this; exact this);
       have f0 := zf (j % 8 * 5); have f1 := zf (j % 8 * 5 + 1); have f2 := zf (j % 8 * 5 + 2); have f3 := zf (j % 8 * 5 + 3); have f4 := zf (j % 8 * 5 + 4); clear zf ep'))
  all_goals
    have hS := (HF.out.below HB.out).setCell HP1.out hcl EP.out HR'.out
    rw [HM.out.cells] at hS
    have HS := hid hS
    clear hS x0 y0 z0 z1 z2 z3 z4 f0 f1 f2 f3 f4 c0 c1 c2 c3 c4 d0 d1 d2 d3 d4 j1 j2 j3
    go_wp2
    go_ret
    exact ⟨D1, p1, P1, rfl, HM.out, HS.out.1, ((((Goes.below D BW.out).trans (Goes.below (w' := W.drew) D ((Below.refl _ _).drew))).trans HG.out).trans (Goes.below D1 HB.out)).trans HS.out.2⟩
end
end Go.Proofs.Ytdgpblhmfkpblaa.Pg
