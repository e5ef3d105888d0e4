/- A page of the document's book becomes its own. -/
import Derived.Test.YtljbdmmidajmdaaPg41
namespace Go.Proofs.Ytljbdmmidajmdaa.Pg
open Go.RowKit

theorem infoInt : (Try.prog.info? 3).map (fun i => (i.zero, i.size, i.bytes)) = some (some (.int .i64 0), 1, 8) := by kernel_rfl

section
variable {B : Nat} {w : World} {D : FD} {fb g cap next b page n : Nat} {R : List RB} {x : RB}
/-- What a walk reads of a book. -/
theorem RF.at_ (h : RF B w D fb g cap R next) (hb : R[b]? = some x) : ∃ A p A' p', w.cell? ⟨g, b * 3, none⟩ = some (.slice A x.cells.length p) ∧ w.cell? ⟨g, b * 3 + 1, none⟩ = some (.slice A' x.pgs.length p') ∧ w.cell? ⟨g, b * 3 + 2, none⟩ = some (.bool x.gone) ∧
    x.cells.length ≤ p ∧ p ≤ maxLen ∧ (A = none → p = 0) ∧ CRow B w A x.cells.length x.cells ∧ x.pgs.length ≤ p' ∧ p' ≤ maxLen ∧ (A' = none → p' = 0) ∧ NRow w A' x.pgs := by
  obtain ⟨A, p, A', p', d0, d1, d2, e1, e2, e3, e4, e5, f1, f2, f3, f4, f5⟩ := (h.bk b x hb).ex
  exact ⟨A, p, A', p', d0, d1, d2, e1, e2, e3, e4, f1, f2, f3, f4⟩
theorem RF.frozen (h : RF B w D fb g cap R next) (j : Nat) : w.frozen? ⟨g, j, none⟩ = false ∧ w.frozen? ⟨fb, j, none⟩ = false := by
  obtain ⟨inner, ho⟩ := h.row
  exact ⟨ho.frozenAt j, frozen_of_row w fb j _ _ h.cell⟩

/-- A number as a value. -/
abbrev numV (n : Nat) : Value := .int .i64 (n : Nat)
theorem NRow.own {base g2 c : Nat} {ns : List Nat} (ho : w.ownsRow base 3 1 (.slice (some ⟨g2, 0, none⟩) ns.length c) ns.length (ns.map numV)) : NRow w (some ⟨g2, 0, none⟩) ns ∧ ns.length ≤ c ∧ c ≤ maxLen ∧ Typ w g2 3 ∧ base ≤ g2 := by
  refine ⟨⟨fun j n hj => ⟨g2, 0, rfl, ?_⟩⟩, ?_⟩
  · have := ho.cells (g := g2) rfl j (numV n) (by rw [List.getElem?_map, hj]; rfl)
    rw [show (⟨g2, 0, none⟩ : Addr).add j = ⟨g2, j, none⟩ by unfold Addr.add; split <;> simp_all] at this
    rwa [Nat.zero_add]
  · rcases ho.2 with ⟨e, _⟩ | ⟨g', c', cur, e, q1, q2, q3, q4, _⟩
    · cases e
    · injection e with e1 e2 e3
      injection e1 with e1
      injection e1 with e1
      subst e1 e3
      exact ⟨q3, q4, Typ.of q2, q1⟩
theorem NRow.news {A : Option Addr} {ns : List Nat} {a0 : Addr} (h : NRow w A ns) (e : A = some a0) : ∀ j u, (ns.map numV)[j]? = some u → w.cell? (a0.add j) = some u := fun j u hu => by
  rw [List.getElem?_map] at hu
  cases hj : ns[j]? with
  | none => rw [hj] at hu; cases hu
  | some n =>
    rw [hj] at hu
    obtain rfl := Option.some.inj hu
    obtain ⟨b, o, e', hc⟩ := h.at_ j n hj
    obtain rfl := Option.some.inj (e.symm.trans e')
    rwa [show (⟨b, o, none⟩ : Addr).add j = ⟨b, o + j, none⟩ by unfold Addr.add; split <;> simp_all]

set_option maxHeartbeats 1600000 in
set_option maxRecDepth 100000 in
theorem own_keep (h : RF B w D fb g cap R next) (hb : R[b]? = some x) (hp : x.pgs[page]? = some n) (hs : ¬ sharedIn R b n) :
    Calls Try.prog 46 #[.pointer (some ⟨fb, 0, none⟩), .int .i64 b, .int .i64 page] w fun e w' => e = .returned (.tuple #[]) ∧ w' = w := by
  obtain ⟨A, p, A', p', d0, d1, d2, -, -, -, -, f1, f2, f3, f4⟩ := h.at_ hb
  obtain ⟨b', o', rfl, q1⟩ := f4.at_ page n hp
  have c0 := h.c0
  have hl := (List.getElem?_eq_some_iff.1 hp).1
  have hbl := (List.getElem?_eq_some_iff.1 hb).1
  have hm := h.small
  unfold maxLen at f2 hm
  have hl' : (page : Int) < (x.pgs.length : Nat) := by omega
  have hbl' : (b : Int) < (R.length : Nat) := by omega
  have hne : ((page : Int) == (x.pgs.length : Nat)) = false := by simp; omega
  have H := hid h
  have HS := hid hs
  clear h hs hp hb d0 d2 f3 f4
  go_enter Try.func46, Try.ntmps46
  go_wp2_with fail
  refine (shared_c H.out b n).mono ?_
  rintro e w1 ⟨t, rfl, ht, rfl⟩
  have ht' : t = false := by
    cases t with
    | false => rfl
    | true => exact absurd (ht.1 rfl) HS.out
  subst ht'
  clear ht
  go_wp2_with fail
  exact bodyPost_end (results_none rfl _ _ _) rfl ⟨rfl, rfl⟩

set_option maxHeartbeats 3200000 in
set_option maxRecDepth 100000 in
theorem own_copy (h : RF B w D fb g cap R next) (hF : Fam B w D) (hB : B ≤ w.heap.size) (hnx : next ≤ 1000000) (hpl : x.pgs.length ≤ 1000000) (hb : R[b]? = some x) (hp : x.pgs[page]? = some n) (hs : sharedIn R b n) :
    Calls Try.prog 46 #[.pointer (some ⟨fb, 0, none⟩), .int .i64 b, .int .i64 page] w fun e w' => e = .returned (.tuple #[]) ∧
      RF B w' D fb g cap (R.set b { x with pgs := x.pgs.set page (next + 1) }) (next + 1) ∧ RGo B w w' fb g := by
  obtain ⟨A, p, A', p', d0, d1, d2, -, -, -, -, f1, f2, f3, f4⟩ := h.at_ hb
  obtain ⟨b', o', rfl, q1⟩ := f4.at_ page n hp
  have c0 := h.c0
  have c1 := h.c1
  have fz := h.frozen
  have hl := (List.getElem?_eq_some_iff.1 hp).1
  have hbl := (List.getElem?_eq_some_iff.1 hb).1
  have hm := h.small
  unfold maxLen at f2 hm
  have hl' : (page : Int) < (x.pgs.length : Nat) := by omega
  have hbl' : (b : Int) < (R.length : Nat) := by omega
  have hne : ((page : Int) == (x.pgs.length : Nat)) = false := by simp; omega
  obtain ⟨i0, hi, hz0, hz1, hz2⟩ := info_parts infoInt
  have HI := hid hi
  have hgf : g ≠ fb := typ_ne h.gtyp.1 (Typ.of h.cell) (by decide)
  have H1 := hid (h.bump (m := (next : Int) + 1) (by omega))
  have H := hid h
  have HS := hid hs
  have HP := hid hp
  have HBk := hid hb
  have HN := hid f4
  clear h hs hp hb d0 d2 f3 f4 hi
  go_enter Try.func46, Try.ntmps46
  go_wp2_with fail
  refine (shared_c H.out b n).mono ?_
  rintro e w1 ⟨t, rfl, ht, rfl⟩
  have ht' : t = true := ht.2 HS.out
  subst ht'
  clear ht
  go_upto_region 2 with fail
  clear c0 c1 d1 q1 fz
  generalize (w1.setCell ⟨fb, 1, none⟩ (.int .i64 ((next : Int) + 1))) = w2 at H1 ⊢
  have hG1 := H1.out.2
  have h2 := H1.out.1
  have s2 := Nat.le_trans hB hG1.fr.size
  have F2 := hid (hG1.fam H.out hF)
  obtain ⟨A2, p2, A2', pp2, d0, d1, d2, -, -, -, -, -, -, -, f4⟩ := h2.at_ HBk.out
  obtain ⟨b2, o2, rfl, -⟩ := f4.at_ page n HP.out
  have c0 := h2.c0
  have HG1 := hid hG1
  have hW := (Below.refl w2.heap.size w2).alloc (Nat.le_refl _) (.cells #[] 3)
  have HW := hid hW
  have HMade := hid (World.ownsRow_made (base := w2.heap.size) (e := 3) (size := 1) w2 #[] 0 (Nat.le_refl _) (Nat.zero_le _) rfl)
  have HNews := hid (fun j u hu => keepc hW (f4.news rfl j u hu))
  have HLen := hid (show (x.pgs.map numV).length = x.pgs.length * 1 by simp)
  have HOne := hid (show ∀ u ∈ x.pgs.map numV, u.oneCell' = true by intro u hu; obtain ⟨n, _, rfl⟩ := List.mem_map.1 hu; rfl)
  have HX0 : 0 < x.pgs.length := by omega
  have e0 := keepc hW c0
  have e1 := keepc hW d1
  clear f4 hG1 h2 d0 d2 hW c0 d1
  go_upto_region 3 with (at_builtin; refine wpList_append_lies _ rfl _ _ 45 rfl w2.heap.size 3 i0 (.int .i64 0) 1 8 Try.underlying45 HI.out hz0 hz1 hz2 rfl (by decide) (.slice (some ⟨w2.heap.size, 0, none⟩) 0 0) 0 [] ?c1 HMade.out ⟨b2, o2, none⟩ x.pgs.length pp2 (x.pgs.map numV) ?c2 HLen.out HNews.out HOne.out HX0 ?c5 ?c6 ?c7 (w2.heap.size + 1) ?c8 ?_; (case c1 => rfl); (case c2 => rfl); (case c5 => unfold maxLen; omega); (case c6 => omega); (case c7 => exact HW.out.size); (case c8 => simp); intro g2 cp2 w4 hown hgrow hat hlt; rw [Nat.zero_add, List.nil_append] at hown; rw [Nat.zero_add]; have hb4 : Below w2.heap.size w2 w4 := HW.out.grown hgrow HW.out.size (fun x hx => by simp [Value.ownBlock] at hx; omega); have HB4 := hid hb4; have HOwn := hid hown; clear hown hgrow hat hlt hb4 e0 e1)
  have h4 := H1.out.1.below HB4.out
  have c1 := h4.c1
  have q1 := HOwn.out.cells (g := g2) rfl page (numV n) (by rw [List.getElem?_map, HP.out]; rfl)
  rw [show (⟨g2, 0, none⟩ : Addr).add page = ⟨g2, page, none⟩ by unfold Addr.add; split <;> simp_all] at q1
  have q2 := HOwn.out.frozenAt page
  clear h4
  go_upto_region 6 with fail
  have hst := (HOwn.out.stored page (.int .i64 ((next : Int) + 1))).1
  rw [show (x.pgs.map numV).set page (.int .i64 ((next : Int) + 1)) = (x.pgs.set page (next + 1)).map numV by rw [List.map_set]; rfl] at hst
  obtain ⟨-, -, -, -, hg2⟩ := NRow.own HOwn.out
  have hb5 : Below w2.heap.size w2 (w4.setCell ⟨g2, page, none⟩ (.int .i64 ((next : Int) + 1))) := HB4.out.setCell (p := ⟨g2, page, none⟩) hg2 _
  have HG2 := hid hg2
  clear c1 q1 q2 hg2
  generalize (w4.setCell ⟨g2, page, none⟩ (.int .i64 ((next : Int) + 1))) = w5 at hst hb5 ⊢
  have h5 := H1.out.1.below hb5
  have HB5 := hid hb5
  have HSt := hid (show w5.ownsRow w2.heap.size 3 1 (.slice (some ⟨g2, 0, none⟩) (x.pgs.set page (next + 1)).length cp2) (x.pgs.set page (next + 1)).length ((x.pgs.set page (next + 1)).map numV) by rw [List.length_set]; exact hst)
  have c0 := h5.c0
  obtain ⟨A5, p5, A5', pp5, -, d1, -⟩ := h5.at_ HBk.out
  have q5 := (h5.frozen (b * 3 + 1)).1
  have H5 := hid h5
  clear h5 hb5 hst
  go_wp2_with fail
  obtain ⟨n1, n2, n3, n4, n5⟩ := NRow.own HSt.out
  have hfin := H5.out.pages HBk.out (A := some ⟨g2, 0, none⟩) (n := x.pgs.length) (c := cp2) (ns := x.pgs.set page (next + 1)) List.length_set (by rw [List.length_set] at n2; exact n2) n3 (fun e => by cases e) n1 (fun y hy => by
    obtain rfl := Option.some.inj hy
    exact ⟨Nat.le_trans s2 HG2.out, n4.lt, fun hf => by have := (F2.out.foot_lt (k := g2) hf).1; have := HG2.out; omega, .inr n4⟩)
  exact bodyPost_end (results_none rfl _ _ _) rfl ⟨rfl, hfin.1, (HG1.out.trans (RGo.below HB5.out)).trans hfin.2⟩

set_option maxHeartbeats 3200000 in
set_option maxRecDepth 100000 in
theorem own_new (h : RF B w D fb g cap R next) (hF : Fam B w D) (hB : B ≤ w.heap.size) (hnx : next ≤ 1000000) (hpl : x.pgs.length ≤ 1000000) (hb : R[b]? = some x) :
    Calls Try.prog 46 #[.pointer (some ⟨fb, 0, none⟩), .int .i64 b, .int .i64 (x.pgs.length : Nat)] w fun e w' => e = .returned (.tuple #[]) ∧
      RF B w' D fb g cap (R.set b { x with pgs := x.pgs ++ [next + 1] }) (next + 1) ∧ RGo B w w' fb g := by
  obtain ⟨A, p, A', p', d0, d1, d2, -, -, -, -, f1, f2, f3, f4⟩ := h.at_ hb
  have c0 := h.c0
  have c1 := h.c1
  have fz := h.frozen
  have hbl := (List.getElem?_eq_some_iff.1 hb).1
  have hm := h.small
  unfold maxLen at f2 hm
  have hbl' : (b : Int) < (R.length : Nat) := by omega
  obtain ⟨i0, hi, hz0, hz1, hz2⟩ := info_parts infoInt
  have HI := hid hi
  have hgf : g ≠ fb := typ_ne h.gtyp.1 (Typ.of h.cell) (by decide)
  have H1 := hid (h.bump (m := (next : Int) + 1) (by omega))
  have H := hid h
  have HBk := hid hb
  clear h hb d0 d2 f3 f4 hi
  go_enter Try.func46, Try.ntmps46
  go_upto_region 2 with fail
  clear c0 c1 d1 fz
  generalize (w.setCell ⟨fb, 1, none⟩ (.int .i64 ((next : Int) + 1))) = w2 at H1 ⊢
  have hG1 := H1.out.2
  have h2 := H1.out.1
  have s2 := Nat.le_trans hB hG1.fr.size
  have F2 := hid (hG1.fam H.out hF)
  obtain ⟨A2, p2, A2', pp2, d0, d1, d2, -, -, -, -, g1, -, g3, f4⟩ := h2.at_ HBk.out
  have c0 := h2.c0
  have HG1 := hid hG1
  have HFr := hid h2.frozen
  have hW := (Below.refl w2.heap.size w2).alloc (Nat.le_refl _) (.cells #[] 3)
  have HW := hid hW
  have HMade := hid (World.ownsRow_made (base := w2.heap.size) (e := 3) (size := 1) w2 #[] 0 (Nat.le_refl _) (Nat.zero_le _) rfl)
  have e0 := keepc hW c0
  have e1 := keepc hW d1
  go_cut [6] (fun v wx => ∃ g2 cp2, v = .slice (some ⟨g2, 0, none⟩) x.pgs.length cp2 ∧ Box (Below w2.heap.size w2 wx) ∧ Box (wx.ownsRow w2.heap.size 3 1 (.slice (some ⟨g2, 0, none⟩) x.pgs.length cp2) x.pgs.length (x.pgs.map numV)))
  case first =>
    cases A2' with
    | none =>
      have hp0 := g3 rfl
      subst hp0
      have hx0 : x.pgs.length = 0 := by omega
      have HX0 := hid hx0
      rw [hx0] at e1
      clear f4 hG1 h2 d0 d2 hW c0 d1 g1 g3 hx0
      go_wp2_with fail
      go_meet
      rw [HX0.out, List.length_eq_zero_iff.1 HX0.out]
      exact ⟨_, _, rfl, HW, HMade⟩
    | some a0 =>
      have HNews := hid (fun j u hu => keepc hW (f4.news rfl j u hu))
      have HLen := hid (show (x.pgs.map numV).length = x.pgs.length * 1 by simp)
      have HOne := hid (show ∀ u ∈ x.pgs.map numV, u.oneCell' = true by intro u hu; obtain ⟨n, _, rfl⟩ := List.mem_map.1 hu; rfl)
      clear f4 hG1 h2 d0 d2 hW c0 d1 g1 g3
      go_wp2_with (at_builtin; refine wpList_append_own _ rfl _ _ 45 rfl w2.heap.size 3 i0 (.int .i64 0) 1 8 Try.underlying45 HI.out hz0 hz1 hz2 rfl (by decide) (.slice (some ⟨w2.heap.size, 0, none⟩) 0 0) 0 [] ?c1 HMade.out a0 x.pgs.length pp2 (x.pgs.map numV) ?c2 HLen.out HNews.out HOne.out ?c5 ?c6 ?c7 ?_; (case c1 => rfl); (case c2 => rfl); (case c5 => unfold maxLen; omega); (case c6 => omega); (case c7 => exact HW.out.size); intro v4 w4 hown hgrow hnil; rw [Nat.zero_add, List.nil_append] at hown; have hb4 : Below w2.heap.size w2 w4 := HW.out.grown hgrow HW.out.size (fun x hx => by simp [Value.ownBlock] at hx; omega); have HB4 := hid hb4; have HOwn := hid hown; have HNil := hid hnil; clear hown hgrow hnil hb4 e0 e1)
      go_meet
      rcases HOwn.out.2 with ⟨hv, _⟩ | ⟨g2, cp2, cur, hv, _⟩
      · exact absurd (HNil.out.1 hv).1 (by simp)
      · subst hv
        exact ⟨g2, cp2, rfl, HB4, HOwn⟩
  case rest =>
    obtain ⟨g2, cp2, rfl, HB4, HOwn⟩ := hcut
    have h4 := H1.out.1.below HB4.out
    have c1 := h4.c1
    have hW4 := (Below.refl wc.heap.size wc).alloc (Nat.le_refl _) (.cells #[.int .i64 ((next : Int) + 1)] 3)
    have HB5 := hid (HB4.out.trans (hW4.mono HB4.out.size))
    have HOwn4 := hid (HOwn.out.alloc (.cells #[.int .i64 ((next : Int) + 1)] 3))
    have HNews := hid (World.news_of_block (heap_alloc_new wc (.cells #[.int .i64 ((next : Int) + 1)] 3)))
    obtain ⟨-, -, -, -, hg2⟩ := NRow.own HOwn.out
    have HG2 := hid hg2
    clear h4 hW4 hg2 hG1 h2 d0 d2 hW c0 d1 g1 g3 e0 e1 f4
    go_upto_region 6 with (at_builtin; refine wpList_append_lies _ rfl _ _ 45 rfl w2.heap.size 3 i0 (.int .i64 0) 1 8 Try.underlying45 HI.out hz0 hz1 hz2 rfl (by decide) (.slice (some ⟨g2, 0, none⟩) x.pgs.length cp2) x.pgs.length (x.pgs.map numV) ?c1 HOwn4.out ⟨wc.heap.size, 0, none⟩ 1 1 [.int .i64 ((next : Int) + 1)] ?c2 rfl ?c3 ?c4 (by decide) ?c5 ?c6 ?c7 (wc.heap.size + 1) ?c8 ?_; (case c1 => rfl); (case c2 => rfl); (case c3 => exact HNews.out); (case c4 => simp [Value.oneCell']); (case c5 => unfold maxLen; omega); (case c6 => omega); (case c7 => exact HB5.out.size); (case c8 => simp); intro g5 cp5 w5 hown hgrow hat hlt; have hb6 : Below w2.heap.size w2 w5 := HB5.out.grown hgrow HB5.out.size (fun y hy => by simp [Value.ownBlock] at hy; have := HG2.out; omega); have HB6 := hid hb6; have HOwn5 := hid hown; clear hown hgrow hat hlt hb6 c1)
    have h5 := H1.out.1.below HB6.out
    have HSt := hid (show w5.ownsRow w2.heap.size 3 1 (.slice (some ⟨g5, 0, none⟩) (x.pgs ++ [next + 1]).length cp5) (x.pgs ++ [next + 1]).length ((x.pgs ++ [next + 1]).map numV) by rw [List.length_append, List.map_append]; exact HOwn5.out)
    have c0 := h5.c0
    obtain ⟨A5, p5, A5', pp5, -, d1, -⟩ := h5.at_ HBk.out
    have q5 := (h5.frozen (b * 3 + 1)).1
    have H5 := hid h5
    clear h5
    go_wp2_with fail
    obtain ⟨n1, n2, n3, n4, n5⟩ := NRow.own HSt.out
    have hfin := H5.out.pages HBk.out (A := some ⟨g5, 0, none⟩) (n := x.pgs.length + 1) (c := cp5) (ns := x.pgs ++ [next + 1]) (by simp) (by rw [List.length_append] at n2; exact n2) n3 (fun e => by cases e) n1 (fun y hy => by
      obtain rfl := Option.some.inj hy
      exact ⟨Nat.le_trans s2 n5, n4.lt, fun hf => by have := (F2.out.foot_lt (k := g5) hf).1; omega, .inr n4⟩)
    exact bodyPost_end (results_none rfl _ _ _) rfl ⟨rfl, hfin.1, (HG1.out.trans (RGo.below HB6.out)).trans hfin.2⟩
end
end Go.Proofs.Ytljbdmmidajmdaa.Pg
