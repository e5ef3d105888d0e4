/- The walk of PagesChains. -/
import Derived.Test.YtljbdmmidajmdaaPg31
import Derived.Deep.RegionHeld3
import Derived.Deep.DrawnRows
namespace Go.Proofs.Ytljbdmmidajmdaa.Pg
open Go.RowKit
attribute [local go_sem ↓] Go.wp_at_zero Go.wp_at_succ

theorem infoBookP : (Try.prog.info? 23).map (fun i => (i.zero, i.size, i.bytes)) = some (some (.pointer none), 1, 8) := by kernel_rfl
theorem Row.made {B : Nat} {w : World} {D : FD} (hF : Fam B w D) (hB : B ≤ w.heap.size) (T : TypeId) (v : Value) : Row B (w.alloc (.cells #[v] T)) D T 1 w.heap.size 1 1 [v] :=
  ⟨⟨rfl, .inr ⟨_, 1, #[v], rfl, hB, heap_alloc_new w _, Nat.le_refl _, by unfold maxLen; omega, rfl, rfl⟩⟩, fun hf => by have := (hF.foot_lt hf).1; omega⟩

theorem keeps {w W w' : World} (hW : Below w.heap.size w W) (hb : Below W.heap.size W w') (a : Addr) (v : Value) (h : w.cell? a = some v) : w'.cell? a = some v := by
  have hl := block_lt_of_cell h
  exact (hb.cell (Nat.lt_of_lt_of_le hl hW.size)).trans ((hW.cell hl).trans h)
/-- A book's answer in whatever world behind this one. -/
theorem Chain.getAny {B : Nat} {w : World} {D : FD} {bs : List Nat} {q L : Nat} {at_ : Nat → Nat} (h : Chain B w D bs q L at_) (hB : B ≤ w.heap.size) {i b : Nat} (hb : bs[i]? = some b) {x : Int} (h0 : 0 ≤ x) {kd a : Int} (hc : (chained (8 * q) at_ i)[x.toNat]? = some ⟨kd, a, 0, [], []⟩)
    (W : World) (hW : Below w.heap.size w W) :
    Calls Try.prog 15 #[.pointer (some ⟨b, 0, none⟩), .int .i64 x] W fun e w' => ∃ A n cap A' n' cap', e = .returned (.tuple #[.agg #[.int .i64 kd, .int .i64 a, .int .i64 0, .slice A n cap, .slice A' n' cap'], .int .i64 0]) ∧ Below W.heap.size W w' ∧ (∀ a v, w.cell? a = some v → w'.cell? a = some v) := by
  refine ((h.below hW).get (Nat.le_trans hB hW.size) hb h0 hc).mono ?_
  rintro e w' ⟨A, n, cap, A', n', cap', rfl, hb, -⟩
  exact ⟨A, n, cap, A', n', cap', rfl, hb, keeps hW hb⟩

/-- A cell that a variable begins with. -/
abbrev zeroCell : Obj := .cells #[.int .i64 0, .int .i64 0, .int .i64 0, .slice none 0 0, .slice none 0 0] 31
theorem Chain.getA {B : Nat} {w : World} {D : FD} {bs : List Nat} {q L : Nat} {at_ : Nat → Nat} (h : Chain B w D bs q L at_) (hB : B ≤ w.heap.size) {i b : Nat} (hb : bs[i]? = some b) {x : Int} (h0 : 0 ≤ x) {kd a : Int} (hc : (chained (8 * q) at_ i)[x.toNat]? = some ⟨kd, a, 0, [], []⟩) :
    Calls Try.prog 15 #[.pointer (some ⟨b, 0, none⟩), .int .i64 x] w.drew fun e w' => ∃ A n cap A' n' cap', e = .returned (.tuple #[.agg #[.int .i64 kd, .int .i64 a, .int .i64 0, .slice A n cap, .slice A' n' cap'], .int .i64 0]) ∧ Below w.heap.size w w' ∧ (∀ a v, w.cell? a = some v → w'.cell? a = some v) := by
  refine (h.getAny hB hb h0 hc w.drew (Below.refl _ _).drew).mono ?_
  rintro e w' ⟨A, n, cap, A', n', cap', rfl, hb, hk⟩
  exact ⟨A, n, cap, A', n', cap', rfl, below_drew hb, hk⟩
theorem Chain.getB {B : Nat} {w : World} {D : FD} {bs : List Nat} {q L : Nat} {at_ : Nat → Nat} (h : Chain B w D bs q L at_) (hB : B ≤ w.heap.size) {i b : Nat} (hb : bs[i]? = some b) {x : Int} (h0 : 0 ≤ x) {kd a : Int} (hc : (chained (8 * q) at_ i)[x.toNat]? = some ⟨kd, a, 0, [], []⟩) :
    Calls Try.prog 15 #[.pointer (some ⟨b, 0, none⟩), .int .i64 x] ((w.alloc zeroCell).drew) fun e w' => ∃ A n cap A' n' cap', e = .returned (.tuple #[.agg #[.int .i64 kd, .int .i64 a, .int .i64 0, .slice A n cap, .slice A' n' cap'], .int .i64 0]) ∧ Below w.heap.size w w' ∧ (∀ a v, w.cell? a = some v → w'.cell? a = some v) ∧
      w'.cell? ⟨w.heap.size, 0, none⟩ = some (.int .i64 0) ∧ w'.cell? ⟨w.heap.size, 1, none⟩ = some (.int .i64 0) ∧ w'.cell? ⟨w.heap.size, 2, none⟩ = some (.int .i64 0) ∧ w'.cell? ⟨w.heap.size, 3, none⟩ = some (.slice none 0 0) ∧ w'.cell? ⟨w.heap.size, 4, none⟩ = some (.slice none 0 0) ∧
      (∀ j, w'.frozen? ⟨w.heap.size, j, none⟩ = false) ∧ w.heap.size < w'.heap.size := by
  have hW : Below w.heap.size w ((w.alloc zeroCell).drew) := ((Below.refl _ _).alloc (Nat.le_refl _) _).drew
  refine (h.getAny hB hb h0 hc _ hW).mono ?_
  rintro e w' ⟨A, n, cap, A', n', cap', rfl, hb, hk⟩
  have hn : (w.alloc zeroCell).drew.heap[w.heap.size]? = some zeroCell := heap_alloc_new w zeroCell
  have hl : w.heap.size < (w.alloc zeroCell).drew.heap.size := (Array.getElem?_eq_some_iff.1 hn).1
  have hn' : w'.heap[w.heap.size]? = some zeroCell := (hb.block _ hl).trans hn
  exact ⟨A, n, cap, A', n', cap', rfl, hW.trans (hb.mono hW.size), hk, cell_of_row _ _ 0 _ _ _ hn', cell_of_row _ _ 1 _ _ _ hn', cell_of_row _ _ 2 _ _ _ hn', cell_of_row _ _ 3 _ _ _ hn', cell_of_row _ _ 4 _ _ _ hn', fun j => by simp [World.frozen?, hn', zeroCell], Nat.lt_of_lt_of_le hl hb.size⟩

theorem keep1 {w W : World} (hb : Below w.heap.size w W) {a : Addr} {v : Value} (h : w.cell? a = some v) : W.cell? a = some v := (hb.cell (block_lt_of_cell h)).trans h
/-- A world behind w in which a block of the region's own holds these values first. -/
structure Made (w W : World) (b : Nat) (u v : Value) : Prop where
  below : Below w.heap.size w W
  c0 : W.cell? ⟨b, 0, none⟩ = some u
  c1 : W.cell? ⟨b, 1, none⟩ = some v
theorem made_alloc {w w3 : World} (hb : Below w.heap.size w w3) (u v x y z : Value) : Made w (w3.alloc (.cells #[u, v, x, y, z] 31)) w3.heap.size u v := by
  have hn := heap_alloc_new w3 (.cells #[u, v, x, y, z] 31)
  exact ⟨hb.alloc hb.size _, cell_of_row _ _ 0 _ _ _ hn, cell_of_row _ _ 1 _ _ _ hn⟩
theorem made_set {w w3 : World} (hb : Below w.heap.size w w3) {u' v' : Value} (h0 : w3.cell? ⟨w.heap.size, 0, none⟩ = some u') (h1 : w3.cell? ⟨w.heap.size, 1, none⟩ = some v') (u v x y z : Value) :
    Made w (((((w3.setCell ⟨w.heap.size, 0, none⟩ u).setCell ⟨w.heap.size, 1, none⟩ v).setCell ⟨w.heap.size, 2, none⟩ x).setCell ⟨w.heap.size, 3, none⟩ y).setCell ⟨w.heap.size, 4, none⟩ z) w.heap.size u v := by
  refine ⟨((((hb.setCell (p := ⟨w.heap.size, 0, none⟩) (Nat.le_refl _) u).setCell (p := ⟨w.heap.size, 1, none⟩) (Nat.le_refl _) v).setCell (p := ⟨w.heap.size, 2, none⟩) (Nat.le_refl _) x).setCell (p := ⟨w.heap.size, 3, none⟩) (Nat.le_refl _) y).setCell (p := ⟨w.heap.size, 4, none⟩) (Nat.le_refl _) z, ?_, ?_⟩
  · rw [World.cell?_setCell_other (h := by simp), World.cell?_setCell_other (h := by simp), World.cell?_setCell_other (h := by simp), World.cell?_setCell_other (h := by simp), World.cell?_setCell_same (h := h0)]
  · rw [World.cell?_setCell_other (h := by simp), World.cell?_setCell_other (h := by simp), World.cell?_setCell_other (h := by simp)]
    exact World.cell?_setCell_same _ _ v (u := v') (by rw [World.cell?_setCell_other (h := by simp), h1])

set_option maxHeartbeats 16000000 in
set_option maxRecDepth 100000 in
theorem chains_c (n : Int) (hn0 : 0 ≤ n) (hn1 : n ≤ 255) (A : Option Addr) (len cap : Nat) (f : Nat → Int) (w : World) (hR : U8Row w A len f) :
    Calls Try.prog 4 #[.int .u8 n, .slice A len cap] w fun e w' => e = .returned (.bool true) ∧ Below w.heap.size w w' := by
  have HR := hid hR
  have hlen := hR.le
  clear hR
  have y0 : n.tmod 4 = n % 4 := Int.tmod_eq_emod_of_nonneg hn0
  obtain ⟨q, hq⟩ : ∃ q : Nat, 1 + n % 4 = (q : Int) := ⟨(1 + n % 4).toNat, by omega⟩
  have hq1 : 1 ≤ q := by omega
  have hq4 : q ≤ 4 := by omega
  have y1 : ((8 : Int) * (q : Int)).tdiv 8 = (q : Int) := by rw [Int.tdiv_eq_ediv_of_nonneg (by omega)]; omega
  obtain ⟨i0, hi, hz0, hz1, hz2⟩ := info_parts infoBookP
  have HI := hid hi
  clear hi
  go_enter Try.func4, Try.ntmps4
  go_wp2_with (go_at_call 13; refine (New (B := w.heap.size) (Nat.le_refl _)).mono ?_; rintro e w1 ⟨b, rfl, D, hF, hb, -, -, hS⟩; have HB := hid hb; have HS := hid (show Solo w.heap.size w1 b (counted 1 0) from ⟨D, [], hF, hS⟩); clear hF hb hS)
  go_loopw [7] (fun i wr => ∃ k : Nat, k ≤ 8 * q ∧ i = .int .i64 k ∧ Box (Below w.heap.size w wr) ∧ Box (Solo w.heap.size wr b (counted 1 k))) (fun i _ => 8 * q - (intOf i).toNat)
  case atStart => exact ⟨0, by omega, rfl, HB, HS⟩
  case round =>
    clear HB HS
    obtain ⟨k, hk, rfl, HB, HS⟩ := hrel
    have s1 := HB.out.size
    rcases Nat.lt_or_ge k (8 * q) with hlt | hge
    · have hlt' : (k : Int) < 8 * (q : Int) := by omega
      have HL := hid (counted_length 1 k)
      have hk4 : k < 4096 := by omega
      go_wp2_with fail
      refine (HS.out.add s1 (by rw [HL.out]; exact hk4) (c := ⟨1, k, 0, [], []⟩) (noReads _ _ _) (noSmall _ _ _)).mono ?_
      rintro e w3 ⟨rfl, hs2, hb2⟩
      rw [counted_succ] at hs2
      have HS2 := hid hs2
      have HB2 := hid (HB.out.trans hb2)
      clear hs2 hb2
      go_wp2_with fail
      go_roundw
      case rel => exact ⟨k + 1, by omega, by go_num, HB2, HS2⟩
      case measure => simp [intOf]; omega
    · obtain rfl : k = 8 * q := by omega
      obtain ⟨D, hC⟩ := HS.out.chain (at_ := fun i => (f i % (8 * (q : Int))).toNat)
      have HC := hid hC
      clear hC HS hge
      have hcast : ((8 * q : Nat) : Int) = 8 * (q : Int) := by omega
      go_wp2_with fail
      have HC0 := hid (HC.out.below ((Below.refl _ _).alloc (Nat.le_refl _) (.cells #[.pointer (some ⟨b, 0, none⟩)] 23)))
      have HB0 := hid (HB.out.alloc s1 (.cells #[.pointer (some ⟨b, 0, none⟩)] 23))
      have HRow0 := hid (Row.made HC.out.fam s1 23 (.pointer (some ⟨b, 0, none⟩)))
      go_loopw [8, 9] (fun l i wx => ∃ L bs g cp D, L ≤ 5 ∧ L ≤ len ∧ i = .int .i64 (L : Nat) ∧ l = .slice (some ⟨g, 0, none⟩) (L + 1) cp ∧ Box (Below w.heap.size w wx) ∧ Box (Chain w.heap.size wx D bs q L (fun i => (f i % (8 * (q : Int))).toNat)) ∧ Box (Row w.heap.size wx D 23 1 g (L + 1) cp (bs.map fun b => Value.pointer (some ⟨b, 0, none⟩))) ∧ Box (bs[0]? = some b)) (fun _ i _ => 5 - (intOf i).toNat)
      case atStart => exact ⟨0, [b], _, 1, D, by omega, by omega, rfl, rfl, HB0, HC0, HRow0, hid rfl⟩
      case round =>
        clear HB0 HC0 HRow0 HB HC
        obtain ⟨L, bs, g, cp, D, hL5, hLl, rfl, rfl, HB, HC, HRow, HB0⟩ := hrel
        have s1 := HB.out.size
        by_cases hin : L < len ∧ L < 5
        · obtain ⟨hj1, hj2⟩ := hin
          have hj1' : (L : Int) < len := by omega
          have hj2' : (L : Int) < 5 := by omega
          have hl2 : L < bs.length := by rw [HC.out.len]; omega
          obtain ⟨c, hc⟩ : ∃ c, bs[L]? = some c := ⟨_, List.getElem?_eq_getElem hl2⟩
          have hcell := HRow.out.at_ (j := L) (u := .pointer (some ⟨c, 0, none⟩)) (by rw [List.getElem?_map, hc]; rfl)
          have HCL := hid hc
          clear hc hl2
          obtain ⟨x, rfl, hx1, hx2, hx3, hx4⟩ := HR.out.at_ L hj1
          have hm : (f L).tmod (8 * (q : Int)) = f L % (8 * (q : Int)) := Int.tmod_eq_emod_of_nonneg hx3
          have hm0 : 0 ≤ f L % (8 * (q : Int)) := Int.emod_nonneg _ (by omega)
          have hm1 : f L % (8 * (q : Int)) < 8 * (q : Int) := Int.emod_lt_of_pos _ (by omega)
          have HM := hid (show (f L % (8 * (q : Int))).toNat < 8 * q by omega)
          have hk0 : ¬ (8 * (q : Int) = 0) := by omega
          go_wp2_with fail
          refine (HC.out.mark s1 (by omega) HCL.out).mono ?_
          rintro e w3 ⟨m, rfl, D3, hC3, hG3⟩
          have HB3 := hid (HB.out.trans (hG3.low HC.out.fam s1))
          have HRow3 := hid (HRow.out.goes hG3)
          have HC3 := hid hC3
          clear hC3 hG3 hcell
          have s3 := HB3.out.size
          have hx5 := (HB3.out.cell (p := x.add L) (by rw [add_block]; exact hx1)).trans hx2
          clear hx2
          go_wp2_with fail
          refine (HC3.out.live (n := (q : Int) + (L : Int)) (by omega)).mono ?_
          rintro e w4 ⟨rfl, rfl⟩
          go_wp2_with fail
          refine (HC3.out.set s3 (by omega) (x := f L % (8 * (q : Int))) hm0 rfl HM.out).mono ?_
          rintro e w5 ⟨rfl, D5, hC5, hG5⟩
          have HB5 := hid (HB3.out.trans (hG5.low HC3.out.fam s3))
          have HRow5 := hid (HRow3.out.goes hG5)
          have HC5 := hid hC5
          clear hC5 hG5
          have s5 := HB5.out.size
          have hb6 := (Below.refl _ w5).alloc (Nat.le_refl _) (.cells #[.pointer (some ⟨m, 0, none⟩)] 23)
          have HB6 := hid (HB5.out.trans (hb6.mono s5))
          have HC6 := hid (HC5.out.below hb6)
          have HRow6 := hid (HRow5.out.below hb6)
          have HN := hid (heap_alloc_new w5 (.cells #[.pointer (some ⟨m, 0, none⟩)] 23))
          clear hb6
          have HOwn := hid HRow6.out.own
          have HNews := hid (World.news_of_block HN.out)
          have HSz := hid HB6.out.size
          go_wp2_with (at_builtin; refine wpList_append_lies _ rfl _ _ 39 rfl w.heap.size 23 i0 (.pointer none) 1 8 Try.underlying39 HI.out hz0 hz1 hz2 rfl (by decide) (.slice (some ⟨g, 0, none⟩) (L + 1) cp) (L + 1) (bs.map fun b => Value.pointer (some ⟨b, 0, none⟩)) ?c1 HOwn.out ⟨w5.heap.size, 0, none⟩ 1 1 [.pointer (some ⟨m, 0, none⟩)] ?c2 rfl ?c3 ?c4 (by decide) ?c5 ?c6 HSz.out _ rfl ?_; (case c1 => rfl); (case c2 => rfl); (case c3 => exact HNews.out); (case c4 => simp [Value.oneCell']); (case c5 => unfold maxLen; omega); (case c6 => omega); intro g' cp' w7 hown hgrow hat hlt; have HRow7 := hid (HRow6.out.grow HC6.out.fam HSz.out (by decide) (by decide) hgrow hown (hat.imp id (fun e => by omega))); clear hown hgrow hat hlt)
          go_roundw
          case rel =>
            repeat (apply Exists.intro)
            refine And.intro ?_ rfl
            exact ⟨L + 1, bs ++ [m], g', cp', D5, by omega, by omega, by go_num, rfl, hid (HB6.out.trans HRow7.out.2.2), hid (HC6.out.move HRow7.out.1), hid (by rw [List.map_append]; exact HRow7.out.2.1), hid (by rw [List.getElem?_append_left (List.getElem?_eq_some_iff.1 HB0.out).1]; exact HB0.out)⟩
          case measure => simp [intOf]; omega
        · have hor : (len : Int) ≤ L ∨ ((L : Int) < len ∧ (5 : Int) ≤ L) := by omega
          rcases hor with hor | ⟨hor, hor2⟩
          all_goals
            go_wp2_with fail
            clear hor
            obtain ⟨N, hN⟩ : ∃ N, L + 1 = N := ⟨_, rfl⟩
            have hN' : (L : Int) + 1 = N := by omega
            rw [hN] at HRow
            simp only [hN]
            go_loopw [11] (fun i wx => ∃ k : Nat, 1 ≤ k ∧ k ≤ N ∧ i = .int .i64 (k : Int) ∧ Box (Below w.heap.size w wx) ∧ Box (Chain w.heap.size wx D bs q L (fun i => (f i % (8 * (q : Int))).toNat)) ∧ Box (Row w.heap.size wx D 23 1 g N cp (bs.map fun b => Value.pointer (some ⟨b, 0, none⟩)))) (fun i _ => N - (intOf i).toNat)
            case atStart => exact ⟨1, by omega, by omega, rfl, HB, HC, HRow⟩
            case round =>
              clear HB HC HRow s1
              obtain ⟨k, hk1, hkN, rfl, HB, HC, HRow⟩ := hrel
              have s1 := HB.out.size
              rcases Nat.lt_or_ge k N with hlt | hge
              · obtain ⟨j, hj⟩ : ∃ j, k = j + 1 := ⟨k - 1, by omega⟩
                have hlt' : (k : Int) < N := by omega
                have hk0' : (0 : Int) ≤ k := by omega
                have hj0' : (0 : Int) ≤ j := by omega
                have hjl' : (j : Int) < len := by omega
                have hjN' : (j : Int) < N := by omega
                have hw1 : IntKind.i64.wrap ((k : Int) - 1) = j := by
                  have : ((k : Int) - 1) = j := by omega
                  rw [this]
                  exact IntWalk.i64_in _ (by omega)
                obtain ⟨x, rfl, hx1, hx2, hx3, hx4⟩ := HR.out.at_ j (by omega)
                have hwf : IntKind.i64.wrap (f j) = f j := IntWalk.i64_in _ (by omega)
                have hm : (f j).tmod (8 * (q : Int)) = f j % (8 * (q : Int)) := Int.tmod_eq_emod_of_nonneg hx3
                have hm0 : 0 ≤ f j % (8 * (q : Int)) := Int.emod_nonneg _ (by omega)
                have hm1 : f j % (8 * (q : Int)) < 8 * (q : Int) := Int.emod_lt_of_pos _ (by omega)
                have HM := hid (show (f j % (8 * (q : Int))).toNat < 8 * q by omega)
                have hk0 : ¬ (8 * (q : Int) = 0) := by omega
                have hx5 := (HB.out.cell (p := x.add j) (by rw [add_block]; exact hx1)).trans hx2
                clear hx2
                have hl2 : k < bs.length := by rw [HC.out.len]; omega
                obtain ⟨c1, hc1⟩ : ∃ c, bs[k]? = some c := ⟨_, List.getElem?_eq_getElem hl2⟩
                obtain ⟨c0, hc0⟩ : ∃ c, bs[j]? = some c := ⟨_, List.getElem?_eq_getElem (by omega)⟩
                have hcell1 := HRow.out.at_ (j := k) (u := .pointer (some ⟨c1, 0, none⟩)) (by rw [List.getElem?_map, hc1]; rfl)
                have hcell0 := HRow.out.at_ (j := j) (u := .pointer (some ⟨c0, 0, none⟩)) (by rw [List.getElem?_map, hc0]; rfl)
                obtain ⟨kd, a0, hq1, hq2⟩ := chained_old (k := 8 * q) (at_ := fun i => (f i % (8 * (q : Int))).toNat) (i := j) HM.out
                have hn1 : (chained (8 * q) (fun i => (f i % (8 * (q : Int))).toNat) k)[(f j % (8 * (q : Int))).toNat]? = some ⟨2, j, 0, [], []⟩ := by rw [hj]; exact chained_new (at_ := fun i => (f i % (8 * (q : Int))).toNat) HM.out
                have HG1 := hid (HC.out.getA s1 hc1 hm0 hn1)
                have HG2 := hid (HC.out.getB s1 hc1 hm0 hn1)
                have HC0 := hid hc0
                have HN := hid hq1
                have HKD := hid hq2
                have HJ := hid hj
                clear hc1 hc0 hl2 hq1 hq2 hj hn1
                go_wp2_with fail
                have nn1 := World.new_ne wr _ hcell1
                have nn2 := World.new_ne wr _ hx5
                go_region_held3 (fun w' => w'.cell? ⟨g, k, none⟩ = some (.pointer (some ⟨c1, 0, none⟩)) ∧ w'.cell? (x.add j) = some (.int .u8 (f j))) (go_keep)
                  (first
                    | (go_at_call 15; refine HG1.out.mono ?_; rintro e w3 ⟨A1, m1, p1, A1', m1', p1', rfl, hb3, hk3⟩; have k1 := hk3 _ _ hcell1; have k2 := hk3 _ _ hx5; have nn3 := World.new_ne w3 _ k1; have nn4 := World.new_ne w3 _ k2; have HB3 := hid hb3; have HK3 := hid hk3; clear hb3 hk3)
                    | (go_at_call 15; refine HG2.out.mono ?_; rintro e w3 ⟨A1, m1, p1, A1', m1', p1', rfl, hb3, hk3, e0, e1, e2, e3, e4, e5, e6⟩; have k1 := hk3 _ _ hcell1; have k2 := hk3 _ _ hx5; have nn3 := World.new_ne w3 _ k1; have nn4 := World.new_ne w3 _ k2; have HB3 := hid hb3; have HK3 := hid hk3; clear hb3 hk3))
                have HM1 := hid (made_alloc HB3.out (.int .i64 2) (.int .i64 j) (.int .i64 0) (.slice A1 m1 p1) (.slice A1' m1' p1'))
                clear k1 k2 nn1 nn2 nn3 nn4 HK3
                generalize (w3.alloc (.cells #[.int .i64 2, .int .i64 j, .int .i64 0, .slice A1 m1 p1, .slice A1' m1' p1'] 31)) = W1 at HM1 ⊢
                generalize w3.heap.size = cb at HM1 ⊢
                clear HB3
                rotate_left
                have HM1 := hid (made_set HB3.out e0 e1 (.int .i64 2) (.int .i64 j) (.int .i64 0) (.slice A1 m1 p1) (.slice A1' m1' p1'))
                clear k1 k2 nn1 nn2 nn3 nn4 HK3 e0 e1 e2 e3 e4 e5 e6
                generalize (((((w3.setCell ⟨wr.heap.size, 0, none⟩ (.int .i64 2)).setCell ⟨wr.heap.size, 1, none⟩ (.int .i64 j)).setCell ⟨wr.heap.size, 2, none⟩ (.int .i64 0)).setCell ⟨wr.heap.size, 3, none⟩ (.slice A1 m1 p1)).setCell ⟨wr.heap.size, 4, none⟩ (.slice A1' m1' p1')) = W1 at HM1 ⊢
                generalize wr.heap.size = cb at HM1 ⊢
                clear HB3
                all_goals
                  have HC1 := hid (HC.out.below HM1.out.below)
                  have s2 := Nat.le_trans s1 HM1.out.below.size
                  have HB1 := hid (HB.out.trans (HM1.out.below.mono s1))
                  have HRow1 := hid (HRow.out.below HM1.out.below)
                  have q0 := keep1 HM1.out.below hcell0
                  have q5 := keep1 HM1.out.below hx5
                  have HQ0 := hid HM1.out.c0
                  have HQ1 := hid HM1.out.c1
                  clear hcell0 hcell1 hx5 hx1 HG1 HG2 HC HB HRow HM1 s1
                  have HG1 := hid (HC1.out.getA s2 HC0.out hm0 HN.out)
                  have HG2 := hid (HC1.out.getB s2 HC0.out hm0 HN.out)
                  have nn1 := World.new_ne W1 _ q0
                  have nn2 := World.new_ne W1 _ q5
                  go_wp2_with fail
                  go_region_held3 (fun w' => w'.cell? ⟨g, j, none⟩ = some (.pointer (some ⟨c0, 0, none⟩)) ∧ w'.cell? (x.add j) = some (.int .u8 (f j))) (go_keep)
                    (first
                      | (go_at_call 15; refine HG1.out.mono ?_; rintro e w4 ⟨A2, m2, p2, A2', m2', p2', rfl, hb3, hk3⟩; have k1 := hk3 _ _ q0; have k2 := hk3 _ _ q5; have nn3 := World.new_ne w4 _ k1; have nn4 := World.new_ne w4 _ k2; have HB3 := hid hb3; have HK3 := hid hk3; clear hb3 hk3)
                      | (go_at_call 15; refine HG2.out.mono ?_; rintro e w4 ⟨A2, m2, p2, A2', m2', p2', rfl, hb3, hk3, e0, e1, e2, e3, e4, e5, e6⟩; have k1 := hk3 _ _ q0; have k2 := hk3 _ _ q5; have HB3 := hid hb3; have HK3 := hid hk3; clear hb3 hk3))
                  have HM1 := hid (made_alloc HB3.out (.int .i64 kd) (.int .i64 a0) (.int .i64 0) (.slice A2 m2 p2) (.slice A2' m2' p2'))
                  clear k1 k2 nn1 nn2 nn3 nn4 HK3
                  generalize (w4.alloc (.cells #[.int .i64 kd, .int .i64 a0, .int .i64 0, .slice A2 m2 p2, .slice A2' m2' p2'] 31)) = W2 at HM1 ⊢
                  generalize w4.heap.size = db at HM1 ⊢
                  clear HB3
                  rotate_left
                  have HM1 := hid (made_set HB3.out e0 e1 (.int .i64 kd) (.int .i64 a0) (.int .i64 0) (.slice A2 m2 p2) (.slice A2' m2' p2'))
                  clear k1 k2 nn1 nn2 HK3 e0 e1 e2 e3 e4 e5 e6
                  generalize (((((w4.setCell ⟨W1.heap.size, 0, none⟩ (.int .i64 kd)).setCell ⟨W1.heap.size, 1, none⟩ (.int .i64 a0)).setCell ⟨W1.heap.size, 2, none⟩ (.int .i64 0)).setCell ⟨W1.heap.size, 3, none⟩ (.slice A2 m2 p2)).setCell ⟨W1.heap.size, 4, none⟩ (.slice A2' m2' p2')) = W2 at HM1 ⊢
                  generalize W1.heap.size = db at HM1 ⊢
                  clear HB3
                  all_goals
                    have HC2 := hid (HC1.out.below HM1.out.below)
                    have s3 := Nat.le_trans s2 HM1.out.below.size
                    have HB2 := hid (HB1.out.trans (HM1.out.below.mono s2))
                    have HRow2 := hid (HRow1.out.below HM1.out.below)
                    have r0 := keep1 HM1.out.below HQ0.out
                    have r1 := keep1 HM1.out.below HQ1.out
                    have r2 := HM1.out.c0
                    have r3 := HM1.out.c1
                    clear HM1 HG1 HG2 HC1 HB1 HRow1 q0 q5 HQ0 HQ1
                    clear hm hm0 hm1 hwf hk0
                    by_cases hkd : kd = 2
                    · have ha0 : ¬ (a0 = (j : Int)) := by have := HKD.out hkd; omega
                      go_wp2_with fail
                      clear hw1 r0 r1 r2 r3
                      go_roundw
                      case rel =>
                        first | ((repeat (apply Exists.intro)); refine And.intro ?_ rfl; exact ⟨k + 1, Nat.le_add_left 1 k, hlt, rfl, HB2, HC2, HRow2⟩) | exact ⟨k + 1, Nat.le_add_left 1 k, hlt, rfl, HB2, HC2, HRow2⟩
                      case measure => simp [intOf]; omega
                    · go_wp2_with fail
                      clear hw1 r0 r1 r2 r3
                      go_roundw
                      case rel =>
                        first | ((repeat (apply Exists.intro)); refine And.intro ?_ rfl; exact ⟨k + 1, Nat.le_add_left 1 k, hlt, rfl, HB2, HC2, HRow2⟩) | exact ⟨k + 1, Nat.le_add_left 1 k, hlt, rfl, HB2, HC2, HRow2⟩
                      case measure => simp [intOf]; omega
              · obtain rfl : k = N := by omega
                go_wp2_with fail
                refine (HC.out.live HB0.out (n := (q : Int) + (k : Int) - 1) (by omega)).mono ?_
                rintro e w3 ⟨rfl, rfl⟩
                go_wp2_with fail
                refine (awake_c _).mono ?_
                rintro e w4 ⟨rfl, hb4⟩
                have HB4 := hid (HB.out.trans (hb4.mono s1))
                clear hb4
                go_wp2_with fail
                go_ret
                exact ⟨rfl, HB4.out⟩
end Go.Proofs.Ytljbdmmidajmdaa.Pg
