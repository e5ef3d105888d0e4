/- The document's Set. -/
import Derived.Test.YtljbdmmidajmdaaPg43
namespace Go.Proofs.Ytljbdmmidajmdaa.Pg
open Go.RowKit

/-- How a book comes to a page of its own: its numbers then, and how many numbers there are. -/
inductive OwnRB (R : List RB) (b : Nat) (x : RB) (page next : Nat) : List Nat → Nat → Prop
  | keep {n : Nat} (hp : x.pgs[page]? = some n) (hs : ¬ sharedIn R b n) : OwnRB R b x page next x.pgs next
  | copy {n : Nat} (hp : x.pgs[page]? = some n) (hs : sharedIn R b n) : OwnRB R b x page next (x.pgs.set page (next + 1)) (next + 1)
  | new (hp : page = x.pgs.length) : OwnRB R b x page next (x.pgs ++ [next + 1]) (next + 1)

section
variable {B : Nat} {w : World} {D : FD} {fb g cap next b : Nat} {R : List RB} {x : RB}
theorem set_id {α : Type} {l : List α} {i : Nat} {a : α} (h : l[i]? = some a) : l.set i a = l := by
  apply List.ext_getElem?
  intro j
  rw [List.getElem?_set]
  split
  · rename_i e; subst e; rw [if_pos (List.getElem?_eq_some_iff.1 h).1, h]
  · rfl
theorem own_c (h : RF B w D fb g cap R next) (hF : Fam B w D) (hB : B ≤ w.heap.size) (hnx : next ≤ 1000000) (hpl : x.pgs.length ≤ 1000000) (hb : R[b]? = some x) {page : Nat} (hpg : page ≤ x.pgs.length) :
    Calls Try.prog 46 #[.pointer (some ⟨fb, 0, none⟩), .int .i64 b, .int .i64 page] w fun e w' => e = .returned (.tuple #[]) ∧
      ∃ ps next', OwnRB R b x page next ps next' ∧ RF B w' D fb g cap (R.set b { x with pgs := ps }) next' ∧ RGo B w w' fb g := by
  rcases Nat.lt_or_ge page x.pgs.length with hlt | hge
  · have hp : x.pgs[page]? = some x.pgs[page] := List.getElem?_eq_getElem hlt
    by_cases hs : sharedIn R b x.pgs[page]
    · refine (own_copy h hF hB hnx hpl hb hp hs).mono ?_
      rintro e w' ⟨rfl, h1, h2⟩
      exact ⟨rfl, _, _, .copy hp hs, h1, h2⟩
    · refine (own_keep h hb hp hs).mono ?_
      rintro e w' ⟨rfl, rfl⟩
      refine ⟨rfl, _, _, .keep hp hs, ?_, ⟨Fr.refl _ _, fun _ _ _ _ => rfl⟩⟩
      rw [set_id hb]
      exact h
  · obtain rfl : page = x.pgs.length := by omega
    refine (own_new h hF hB hnx hpl hb).mono ?_
    rintro e w' ⟨rfl, h1, h2⟩
    exact ⟨rfl, _, _, .new rfl, h1, h2⟩

theorem cells_flat {b : Nat} : ∀ {l : List CD} {o : Nat}, (∀ j c, l[j]? = some c → CellAt B w b (o + j * 5) c) → ∃ inner, CellsR B w l inner ∧ ∀ j u, inner[j]? = some u → w.cell? ⟨b, o + j, none⟩ = some u
  | [], o, _ => ⟨[], rfl, fun j u hu => by simp at hu⟩
  | c :: l, o, h => by
    obtain ⟨A1, n1, p1, A2, n2, p2, q0, q1, q2, q3, q4, r⟩ := h 0 c rfl
    rw [Nat.zero_mul, Nat.add_zero] at q0 q1 q2 q3 q4
    obtain ⟨inner, h1, h2⟩ := cells_flat (l := l) (o := o + 5) (fun j c hj => by
      have := h (j + 1) c hj
      rwa [show o + (j + 1) * 5 = o + 5 + j * 5 by omega] at this)
    refine ⟨[.int .i64 c.kind, .int .i64 c.a, .int .i64 c.b, .slice A1 n1 p1, .slice A2 n2 p2] ++ inner, ⟨_, inner, rfl, ⟨_, _, rfl, r.k, r.v⟩, h1⟩, fun j u hu => ?_⟩
    rcases (by omega : j = 0 ∨ j = 1 ∨ j = 2 ∨ j = 3 ∨ j = 4 ∨ 5 ≤ j) with rfl | rfl | rfl | rfl | rfl | hj
    · obtain rfl := Option.some.inj hu; exact q0
    · obtain rfl := Option.some.inj hu; exact q1
    · obtain rfl := Option.some.inj hu; exact q2
    · obtain rfl := Option.some.inj hu; exact q3
    · obtain rfl := Option.some.inj hu; exact q4
    · obtain ⟨i, rfl⟩ : ∃ i, j = 5 + i := ⟨j - 5, by omega⟩
      have := h2 i u (by simpa [Nat.add_comm] using hu)
      rwa [show o + (5 + i) = o + 5 + i by omega]

set_option maxHeartbeats 1600000 in
set_option maxRecDepth 100000 in
theorem rset_no (h : RF B w D fb g cap R next) (hb : R[b]? = some x) {i : Int} (hi : i < 0 ∨ ((x.cells.length : Nat) : Int) ≤ i) {c : CD} {A A' : Option Addr} {n p n' p' : Nat} :
    Calls Try.prog 23 #[.pointer (some ⟨fb, 0, none⟩), .int .i64 b, .int .i64 i, .agg #[.int .i64 c.kind, .int .i64 c.a, .int .i64 c.b, .slice A n p, .slice A' n' p']] w fun e w' => e = .returned (.int .i64 2) ∧ Below w.heap.size w w' := by
  have hW := (Below.refl w.heap.size w).alloc (Nat.le_refl _) (.cells #[.int .i64 c.kind, .int .i64 c.a, .int .i64 c.b, .slice A n p, .slice A' n' p'] 31)
  obtain ⟨A1, p1, A2, p2, d0, -, -, e1, e2, -⟩ := (h.below hW).at_ hb
  have c0 := (h.below hW).c0
  have hbl := (List.getElem?_eq_some_iff.1 hb).1
  have hm := h.small
  unfold maxLen at hm e2
  have hbl' : (b : Int) < (R.length : Nat) := by omega
  have HW := hid hW
  clear h hb hW
  go_enter Try.func23, Try.ntmps23
  rcases Int.lt_or_le i 0 with h0 | h0
  · go_wp2_with fail
    go_ret
    exact ⟨rfl, HW.out⟩
  · have h1 : ((x.cells.length : Nat) : Int) ≤ i := by omega
    go_wp2_with fail
    go_ret
    exact ⟨rfl, HW.out⟩

set_option maxHeartbeats 3200000 in
set_option maxRecDepth 100000 in
theorem rset_yes (h : RF B w D fb g cap R next) (hF : Fam B w D) (hB : B ≤ w.heap.size) (hnx : next ≤ 1000000) (hpl : x.pgs.length ≤ 1000000) (hcl : x.cells.length ≤ 4096) (hb : R[b]? = some x) {k : Nat} (hk : k < x.cells.length) (hpg : k / 8 ≤ x.pgs.length)
    {c : CD} {A A' : Option Addr} {n p n' p' : Nat} (hr : Reads B w c (.slice A n p) (.slice A' n' p')) :
    Calls Try.prog 23 #[.pointer (some ⟨fb, 0, none⟩), .int .i64 b, .int .i64 k, .agg #[.int .i64 c.kind, .int .i64 c.a, .int .i64 c.b, .slice A n p, .slice A' n' p']] w fun e w' => e = .returned (.int .i64 0) ∧
      ∃ ps next', OwnRB R b x (k / 8) next ps next' ∧ RF B w' D fb g cap (R.set b { x with pgs := ps, cells := x.cells.set k c }) next' ∧ RGo B w w' fb g := by
  have hW := (Below.refl w.heap.size w).alloc (Nat.le_refl _) (.cells #[.int .i64 c.kind, .int .i64 c.a, .int .i64 c.b, .slice A n p, .slice A' n' p'] 31)
  obtain ⟨A1, p1, A2, p2, d0, -, -, e1, e2, -⟩ := (h.below hW).at_ hb
  have c0 := (h.below hW).c0
  have hbl := (List.getElem?_eq_some_iff.1 hb).1
  have hm := h.small
  unfold maxLen at hm e2
  have hbl' : (b : Int) < (R.length : Nat) := by omega
  have hk' : (k : Int) < (x.cells.length : Nat) := by omega
  have hk0 : (0 : Int) ≤ k := by omega
  have yd : ((k : Nat) : Int).tdiv 8 = ((k / 8 : Nat) : Int) := by rw [Int.tdiv_eq_ediv_of_nonneg (by omega)]; omega
  have HW := hid hW
  have H := hid h
  have HBk := hid hb
  have HR := hid hr
  have HF := hid hF
  have HC := hid (heap_alloc_new w (.cells #[.int .i64 c.kind, .int .i64 c.a, .int .i64 c.b, .slice A n p, .slice A' n' p'] 31))
  clear h hb hW hr hF
  go_enter Try.func23, Try.ntmps23
  go_wp2_with fail
  refine (own_c (H.out.below HW.out) (HF.out.below HW.out) (Nat.le_trans hB HW.out.size) hnx hpl HBk.out hpg).mono ?_
  rintro e w2 ⟨rfl, ps, next', ho, h2, hG2⟩
  have hb2 : (R.set b { x with pgs := ps })[b]? = some { x with pgs := ps } := by rw [List.getElem?_set]; simp [hbl]
  have F2 := hid (hG2.fam (H.out.below HW.out) (HF.out.below HW.out))
  have s2 : B ≤ w2.heap.size := Nat.le_trans (Nat.le_trans hB HW.out.size) hG2.fr.size
  obtain ⟨A3, p3, A4, p4, f0, -, -, g1, g2', g3, g4, -⟩ := h2.at_ hb2
  have hcl2 : ({ x with pgs := ps } : RB).cells = x.cells := rfl
  rw [hcl2] at f0 g1 g4
  have lfb := (Array.getElem?_eq_some_iff.1 H.out.cell).1
  have lg := H.out.gtyp.1.lt
  have hbox := (hG2.keep w.heap.size (Array.getElem?_eq_some_iff.1 HC.out).1 (by omega) (by omega)).trans HC.out
  have hr2 := HR.out.move ((Fr.of_below HW.out).trans hG2.fr)
  obtain ⟨bb, oo, rfl, _⟩ := g4.at_ 0 (x.cells[0]) (List.getElem?_eq_getElem (by omega))
  have hall : ∀ j c, x.cells[j]? = some c → CellAt B w2 bb (oo + j * 5) c := fun j c hj => by
    obtain ⟨b1, o1, e, hc⟩ := g4.at_ j c hj
    injection e with e
    injection e with e4 e5
    subst e4 e5
    exact hc
  obtain ⟨inner, hin, hcell⟩ := cells_flat hall
  have e0 := h2.c0
  obtain ⟨i0, hi, hz0, hz1, hz2⟩ := info_parts infoCells
  have HI := hid hi
  have hWW := (Below.refl w2.heap.size w2).alloc (Nat.le_refl _) (.cells #[] 31)
  have HWW := hid hWW
  have HMade := hid (World.ownsRow_made (base := w2.heap.size) (e := 31) (size := 5) w2 #[] 0 (Nat.le_refl _) (Nat.zero_le _) rfl)
  have HNews := hid (fun j u (hu : inner[j]? = some u) => keepc hWW (show w2.cell? ((⟨bb, oo, none⟩ : Addr).add j) = some u by rw [show (⟨bb, oo, none⟩ : Addr).add j = ⟨bb, oo + j, none⟩ by unfold Addr.add; split <;> simp_all]; exact hcell j u hu))
  have HLen := hid hin.length
  have HOne := hid (own_oneCell hin)
  have HIn := hid hin
  have y0 := keepc hWW e0
  have y1 := keepc hWW f0
  have H2 := hid h2
  have HG2 := hid hG2
  have HBox := hid hbox
  have HO := hid ho
  have HR2 := hid hr2
  have HB2 := hid hb2
  have hpos : 0 < x.cells.length := by omega
  have h10 : List.length (List.set R b { x with pgs := ps }) = R.length := List.length_set
  rw [h10] at y0
  clear h2 hG2 hbox ho hr2 hb2 hWW hin hcell hall e0 f0 c0 d0 hi g4 h10
  go_upto_region 4 with fail
  go_upto_region 5 with (at_builtin; refine wpList_append_lies _ rfl _ _ 44 rfl w2.heap.size 31 i0 (.agg #[.int .i64 0, .int .i64 0, .int .i64 0, .slice none 0 0, .slice none 0 0]) 5 72 Try.underlying44 HI.out hz0 hz1 hz2 rfl (by decide) (.slice (some ⟨w2.heap.size, 0, none⟩) 0 0) 0 [] ?c1 HMade.out ⟨bb, oo, none⟩ x.cells.length p3 inner ?c2 HLen.out HNews.out HOne.out hpos ?c5 ?c6 ?c7 (w2.heap.size + 1) ?c8 ?_; (case c1 => rfl); (case c2 => rfl); (case c5 => unfold maxLen; omega); (case c6 => omega); (case c7 => exact HWW.out.size); (case c8 => simp); intro g5 cp5 w4 hown hgrow hat hlt; rw [Nat.zero_add, List.nil_append] at hown; rw [Nat.zero_add]; have hb4 : Below w2.heap.size w2 w4 := HWW.out.grown hgrow HWW.out.size (fun x hx => by simp [Value.ownBlock] at hx; omega); have HB4 := hid hb4; have HOwn := hid hown; clear hown hgrow hat hlt hb4 y0 y1)
  have hg5 : w2.heap.size ≤ g5 := (HOwn.out.lt g5 rfl).1
  have hO : Own B w4 D (.slice (some ⟨g5, 0, none⟩) x.cells.length cp5) x.cells := ⟨⟨inner, own_lower HOwn.out s2, HIn.out.move (Fr.of_below HB4.out)⟩, fun y hy hf => by
    obtain rfl : g5 = y := by simpa [Value.ownBlock] using hy
    have := (F2.out.foot_lt hf).1; omega⟩
  obtain ⟨gg, e5, hso, hfz, hgr, hO5⟩ := hO.put hk (HR2.out.move (Fr.of_below HB4.out))
  injection e5 with e5
  injection e5 with e5
  subst e5
  obtain ⟨v0, d0⟩ := Option.isSome_iff_exists.1 (hso 0 (by omega))
  obtain ⟨v1, d1⟩ := Option.isSome_iff_exists.1 (hso 1 (by omega))
  obtain ⟨v2, d2⟩ := Option.isSome_iff_exists.1 (hso 2 (by omega))
  obtain ⟨v3, d3⟩ := Option.isSome_iff_exists.1 (hso 3 (by omega))
  obtain ⟨v4, d4⟩ := Option.isSome_iff_exists.1 (hso 4 (by omega))
  rw [Nat.add_zero] at d0
  have hbox4 := (HB4.out.block w.heap.size (Array.getElem?_eq_some_iff.1 HBox.out).1).trans HBox.out
  have b0 := cell_of_row _ _ 0 _ _ _ hbox4
  have b1 := cell_of_row _ _ 1 _ _ _ hbox4
  have b2 := cell_of_row _ _ 2 _ _ _ hbox4
  have b3 := cell_of_row _ _ 3 _ _ _ hbox4
  have b4 := cell_of_row _ _ 4 _ _ _ hbox4
  have HB5 := hid (Below.set5 HB4.out (k := g5) (o := k * 5) hg5 (.int .i64 c.kind) (.int .i64 c.a) (.int .i64 c.b) (.slice A n p) (.slice A' n' p'))
  have HO5 := hid hO5
  have HG5 := hid hg5
  clear hO hso hgr hO5 hbox4 hg5
  simp only [List.getElem?_toArray, List.getElem?_cons_zero, List.getElem?_cons_succ] at b0 b1 b2 b3 b4
  go_upto_region 6 with fail
  clear d0 d1 d2 d3 d4 b0 b1 b2 b3 b4 hfz
  generalize (((((w4.setCell ⟨g5, k * 5, none⟩ (.int .i64 c.kind)).setCell ⟨g5, k * 5 + 1, none⟩ (.int .i64 c.a)).setCell ⟨g5, k * 5 + 2, none⟩ (.int .i64 c.b)).setCell ⟨g5, k * 5 + 3, none⟩ (.slice A n p)).setCell ⟨g5, k * 5 + 4, none⟩ (.slice A' n' p')) = w5 at HB5 HO5 ⊢
  have h5 := H2.out.below HB5.out
  have c0 := h5.c0
  rw [show List.length (List.set R b { x with pgs := ps }) = R.length from List.length_set] at c0
  obtain ⟨A5, p5, A5', pp5, d0, -, -⟩ := h5.at_ HB2.out
  have q5 := (h5.frozen (b * 3)).1
  have H5 := hid h5
  clear h5
  go_wp2_with fail
  have hty := HO5.out.typ (g := g5) rfl
  have hno := HO5.out.no g5 rfl
  obtain ⟨A6, p6, hsl, hml, hrow⟩ := HO5.out.slice
  have hlen : (x.cells.set k c).length = x.cells.length := List.length_set
  injection hsl with e1 e2 e3
  subst e1 e3
  have hcapb : x.cells.length ≤ cp5 ∧ cp5 ≤ maxLen := by
    rcases HOwn.out.2 with ⟨e, _⟩ | ⟨_, c7, _, e, _, _, r1, r2, _⟩
    · cases e
    · injection e with _ _ e; subst e; exact ⟨r1, r2⟩
  have hfin := H5.out.cellsTo HB2.out (A := some ⟨g5, 0, none⟩) (n := x.cells.length) (c := cp5) (l := x.cells.set k c) hlen hcapb.1 hcapb.2 (fun e => by cases e) (by rw [hlen] at hrow; exact hrow) (fun y hy => by
    obtain rfl := Option.some.inj hy
    exact ⟨hty.2, hty.1.lt, hno, .inl hty.1⟩)
  rw [Nat.add_zero, List.set_set] at hfin
  exact bodyPost_ret (results_tmp rfl _ _ _) rfl ⟨rfl, ps, next', HO.out, hfin.1, (((RGo.below HW.out).trans HG2.out).trans (RGo.below HB5.out)).trans hfin.2⟩
end
end Go.Proofs.Ytljbdmmidajmdaa.Pg
