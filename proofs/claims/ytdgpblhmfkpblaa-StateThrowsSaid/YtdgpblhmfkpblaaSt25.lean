/- Same: of two views that are alike; of two that are not. -/
import Derived.Test.YtdgpblhmfkpblaaSt24
namespace Go.Proofs.Ytdgpblhmfkpblaa.Pg
open Go.RowKit

section
variable {B B' : Bd} {w w' : World} {P : PS}
set_option maxHeartbeats 3200000 in
set_option maxRecDepth 100000 in
theorem same_true {st : Int} {Ac Af Aj Ao Ac' Af' Aj' Ao' : Option Addr} {nc pc nf pf nj pj no po pc' pf' pj' po' : Nat} {cs : List CD} {C C' : Bd} (hc : CRow C w Ac nc cs) (hc' : CRow C' w Ac' nc cs) (hcn : nc ≤ 100000) {Fs : List FrD} {rows rows' : List (List Value)} (hr : RowR B w 9 (.slice Af nf pf) rows) (hF : FramesR B w Fs rows) (hr' : RowR B' w 9 (.slice Af' nf pf') rows') (hF' : FramesR B' w Fs rows') (hfn : nf ≤ 100000) {js : List JobD} (hj : RowR B w 8 (.slice Aj nj pj) (js.map JobD.row)) (hj' : RowR B' w 8 (.slice Aj' nj pj') (js.map JobD.row)) {os : List ByteArray} (ho : RowR B w 1 (.slice Ao no po) (os.map keyRow)) (ho' : RowR B' w 1 (.slice Ao' no po') (os.map keyRow)) :
    Calls Try.prog 22 #[.agg #[.int .i64 st, .int .i64 0, .int .i64 0, .slice Ac nc pc, .slice Af nf pf, .int .i64 0, .slice Aj nj pj, .slice none 0 0, .int .i64 0, .slice none 0 0, .slice none 0 0, .slice Ao no po], .agg #[.int .i64 st, .int .i64 0, .int .i64 0, .slice Ac' nc pc', .slice Af' nf pf', .int .i64 0, .slice Aj' nj pj', .slice none 0 0, .int .i64 0, .slice none 0 0, .slice none 0 0, .slice Ao' no po']] w fun e w' => e = .returned (.bool true) ∧ Below w.heap.size w w' := by
  have hb : Below w.heap.size w ((w.alloc (.cells #[.int .i64 st, .int .i64 0, .int .i64 0, .slice Ac nc pc, .slice Af nf pf, .int .i64 0, .slice Aj nj pj, .slice none 0 0, .int .i64 0, .slice none 0 0, .slice none 0 0, .slice Ao no po] 44)).alloc (.cells #[.int .i64 st, .int .i64 0, .int .i64 0, .slice Ac' nc pc', .slice Af' nf pf', .int .i64 0, .slice Aj' nj pj', .slice none 0 0, .int .i64 0, .slice none 0 0, .slice none 0 0, .slice Ao' no po'] 44)) := ((Below.refl _ _).alloc (Nat.le_refl _) _).alloc (by go_size) _
  have r1 : ((w.alloc (.cells #[.int .i64 st, .int .i64 0, .int .i64 0, .slice Ac nc pc, .slice Af nf pf, .int .i64 0, .slice Aj nj pj, .slice none 0 0, .int .i64 0, .slice none 0 0, .slice none 0 0, .slice Ao no po] 44)).alloc (.cells #[.int .i64 st, .int .i64 0, .int .i64 0, .slice Ac' nc pc', .slice Af' nf pf', .int .i64 0, .slice Aj' nj pj', .slice none 0 0, .int .i64 0, .slice none 0 0, .slice none 0 0, .slice Ao' no po'] 44)).heap[w.heap.size]? = some (.cells #[.int .i64 st, .int .i64 0, .int .i64 0, .slice Ac nc pc, .slice Af nf pf, .int .i64 0, .slice Aj nj pj, .slice none 0 0, .int .i64 0, .slice none 0 0, .slice none 0 0, .slice Ao no po] 44 (0, 0)) := by
    rw [heap_alloc_old _ _ (by go_size), heap_alloc_new]
  have r2 := heap_alloc_new (w.alloc (.cells #[.int .i64 st, .int .i64 0, .int .i64 0, .slice Ac nc pc, .slice Af nf pf, .int .i64 0, .slice Aj nj pj, .slice none 0 0, .int .i64 0, .slice none 0 0, .slice none 0 0, .slice Ao no po] 44)) (.cells #[.int .i64 st, .int .i64 0, .int .i64 0, .slice Ac' nc pc', .slice Af' nf pf', .int .i64 0, .slice Aj' nj pj', .slice none 0 0, .int .i64 0, .slice none 0 0, .slice none 0 0, .slice Ao' no po'] 44)
  rw [show (w.alloc (.cells #[.int .i64 st, .int .i64 0, .int .i64 0, .slice Ac nc pc, .slice Af nf pf, .int .i64 0, .slice Aj nj pj, .slice none 0 0, .int .i64 0, .slice none 0 0, .slice none 0 0, .slice Ao no po] 44)).heap.size = w.heap.size + 1 by go_size] at r2
  have hz2 : ((w.alloc (.cells #[.int .i64 st, .int .i64 0, .int .i64 0, .slice Ac nc pc, .slice Af nf pf, .int .i64 0, .slice Aj nj pj, .slice none 0 0, .int .i64 0, .slice none 0 0, .slice none 0 0, .slice Ao no po] 44)).alloc (.cells #[.int .i64 st, .int .i64 0, .int .i64 0, .slice Ac' nc pc', .slice Af' nf pf', .int .i64 0, .slice Aj' nj pj', .slice none 0 0, .int .i64 0, .slice none 0 0, .slice none 0 0, .slice Ao' no po'] 44)).heap.size = w.heap.size + 2 := by go_size
  have hcx := hid (hc.below hb)
  have hc'x := hid (hc'.below hb)
  have hrx := hid (hr.move (Fr.of_below hb))
  have hFx := hid (hF.move (Fr.of_below hb))
  have hr'x := hid (hr'.move (Fr.of_below hb))
  have hF'x := hid (hF'.move (Fr.of_below hb))
  have hjx := hid (hj.move (Fr.of_below hb))
  have hj'x := hid (hj'.move (Fr.of_below hb))
  have hox := hid (ho.move (Fr.of_below hb))
  have ho'x := hid (ho'.move (Fr.of_below hb))
  have HB := hid hb
  clear hb hc hc' hr hF hr' hF' hj hj' ho ho'
  go_enter Try.func22, Try.ntmps22
  go_upto_region 1 with fail
  generalize ((w.alloc (.cells #[.int .i64 st, .int .i64 0, .int .i64 0, .slice Ac nc pc, .slice Af nf pf, .int .i64 0, .slice Aj nj pj, .slice none 0 0, .int .i64 0, .slice none 0 0, .slice none 0 0, .slice Ao no po] 44)).alloc (.cells #[.int .i64 st, .int .i64 0, .int .i64 0, .slice Ac' nc pc', .slice Af' nf pf', .int .i64 0, .slice Aj' nj pj', .slice none 0 0, .int .i64 0, .slice none 0 0, .slice none 0 0, .slice Ao' no po'] 44)) = W at hcx hc'x hrx hFx hr'x hF'x hjx hj'x hox ho'x HB r1 r2 hz2 ⊢
  have y0 := (cell_of_row _ _ 0 _ _ _ r1).trans (b := some (Value.int .i64 st)) rfl
  have y1 := (cell_of_row _ _ 1 _ _ _ r1).trans (b := some (Value.int .i64 0)) rfl
  have y2 := (cell_of_row _ _ 2 _ _ _ r1).trans (b := some (Value.int .i64 0)) rfl
  have y3 := (cell_of_row _ _ 3 _ _ _ r1).trans (b := some (Value.slice Ac nc pc)) rfl
  have y4 := (cell_of_row _ _ 4 _ _ _ r1).trans (b := some (Value.slice Af nf pf)) rfl
  have y5 := (cell_of_row _ _ 5 _ _ _ r1).trans (b := some (Value.int .i64 0)) rfl
  have y6 := (cell_of_row _ _ 6 _ _ _ r1).trans (b := some (Value.slice Aj nj pj)) rfl
  have y7 := (cell_of_row _ _ 7 _ _ _ r1).trans (b := some (Value.slice none 0 0)) rfl
  have y8 := (cell_of_row _ _ 8 _ _ _ r1).trans (b := some (Value.int .i64 0)) rfl
  have y9 := (cell_of_row _ _ 9 _ _ _ r1).trans (b := some (Value.slice none 0 0)) rfl
  have y10 := (cell_of_row _ _ 10 _ _ _ r1).trans (b := some (Value.slice none 0 0)) rfl
  have y11 := (cell_of_row _ _ 11 _ _ _ r1).trans (b := some (Value.slice Ao no po)) rfl
  have z0 := (cell_of_row _ _ 0 _ _ _ r2).trans (b := some (Value.int .i64 st)) rfl
  have z1 := (cell_of_row _ _ 1 _ _ _ r2).trans (b := some (Value.int .i64 0)) rfl
  have z2 := (cell_of_row _ _ 2 _ _ _ r2).trans (b := some (Value.int .i64 0)) rfl
  have z3 := (cell_of_row _ _ 3 _ _ _ r2).trans (b := some (Value.slice Ac' nc pc')) rfl
  have z4 := (cell_of_row _ _ 4 _ _ _ r2).trans (b := some (Value.slice Af' nf pf')) rfl
  have z5 := (cell_of_row _ _ 5 _ _ _ r2).trans (b := some (Value.int .i64 0)) rfl
  have z6 := (cell_of_row _ _ 6 _ _ _ r2).trans (b := some (Value.slice Aj' nj pj')) rfl
  have z7 := (cell_of_row _ _ 7 _ _ _ r2).trans (b := some (Value.slice none 0 0)) rfl
  have z8 := (cell_of_row _ _ 8 _ _ _ r2).trans (b := some (Value.int .i64 0)) rfl
  have z9 := (cell_of_row _ _ 9 _ _ _ r2).trans (b := some (Value.slice none 0 0)) rfl
  have z10 := (cell_of_row _ _ 10 _ _ _ r2).trans (b := some (Value.slice none 0 0)) rfl
  have z11 := (cell_of_row _ _ 11 _ _ _ r2).trans (b := some (Value.slice Ao' no po')) rfl
  have l1 : w.heap.size < W.heap.size := by omega
  have l2 : w.heap.size + 1 < W.heap.size := by omega
  clear r1 r2 hz2
  go_wp2_with fail
  refine (eqfCell_c hcx.out hc'x.out hcn).mono ?_
  rintro e w3 ⟨rfl, hb3⟩
  have HB3 := hid (HB.out.trans (hb3.mono HB.out.size))
  have y3_4 := carry hb3 l1 y4
  have z3_4 := carry hb3 l2 z4
  have y3_6 := carry hb3 l1 y6
  have z3_6 := carry hb3 l2 z6
  have y3_7 := carry hb3 l1 y7
  have z3_7 := carry hb3 l2 z7
  have y3_9 := carry hb3 l1 y9
  have z3_9 := carry hb3 l2 z9
  have y3_10 := carry hb3 l1 y10
  have z3_10 := carry hb3 l2 z10
  have y3_11 := carry hb3 l1 y11
  have z3_11 := carry hb3 l2 z11
  have l13 := Nat.lt_of_lt_of_le l1 hb3.size
  have l23 := Nat.lt_of_lt_of_le l2 hb3.size
  have hr3 := hid (hrx.out.move (Fr.of_below hb3))
  have hF3 := hid (hFx.out.move (Fr.of_below hb3))
  have hr'3 := hid (hr'x.out.move (Fr.of_below hb3))
  have hF'3 := hid (hF'x.out.move (Fr.of_below hb3))
  have hj3 := hid (hjx.out.move (Fr.of_below hb3))
  have hj'3 := hid (hj'x.out.move (Fr.of_below hb3))
  have ho3 := hid (hox.out.move (Fr.of_below hb3))
  have ho'3 := hid (ho'x.out.move (Fr.of_below hb3))
  clear hb3 y0 z0 y1 z1 y2 z2 y3 z3 y4 z4 y5 z5 y6 z6 y7 z7 y8 z8 y9 z9 y10 z10 y11 z11
  go_wp2_with fail
  refine (eqfFrame_c hr3.out hF3.out hr'3.out hF'3.out hfn).mono ?_
  rintro e w4 ⟨rfl, hb4⟩
  have HB4 := hid (HB3.out.trans (hb4.mono HB3.out.size))
  have y4_6 := carry hb4 l13 y3_6
  have z4_6 := carry hb4 l23 z3_6
  have y4_7 := carry hb4 l13 y3_7
  have z4_7 := carry hb4 l23 z3_7
  have y4_9 := carry hb4 l13 y3_9
  have z4_9 := carry hb4 l23 z3_9
  have y4_10 := carry hb4 l13 y3_10
  have z4_10 := carry hb4 l23 z3_10
  have y4_11 := carry hb4 l13 y3_11
  have z4_11 := carry hb4 l23 z3_11
  have l14 := Nat.lt_of_lt_of_le l13 hb4.size
  have l24 := Nat.lt_of_lt_of_le l23 hb4.size
  have hj4 := hid (hj3.out.move (Fr.of_below hb4))
  have hj'4 := hid (hj'3.out.move (Fr.of_below hb4))
  have ho4 := hid (ho3.out.move (Fr.of_below hb4))
  have ho'4 := hid (ho'3.out.move (Fr.of_below hb4))
  clear hb4 y3_4 z3_4 y3_6 z3_6 y3_7 z3_7 y3_9 z3_9 y3_10 z3_10 y3_11 z3_11
  go_wp2_with fail
  refine (eqJob_c hj4.out hj'4.out).mono ?_
  rintro e w5 ⟨rfl, hb5⟩
  have HB5 := hid (HB4.out.trans (hb5.mono HB4.out.size))
  have y5_7 := carry hb5 l14 y4_7
  have z5_7 := carry hb5 l24 z4_7
  have y5_9 := carry hb5 l14 y4_9
  have z5_9 := carry hb5 l24 z4_9
  have y5_10 := carry hb5 l14 y4_10
  have z5_10 := carry hb5 l24 z4_10
  have y5_11 := carry hb5 l14 y4_11
  have z5_11 := carry hb5 l24 z4_11
  have l15 := Nat.lt_of_lt_of_le l14 hb5.size
  have l25 := Nat.lt_of_lt_of_le l24 hb5.size
  have ho5 := hid (ho4.out.move (Fr.of_below hb5))
  have ho'5 := hid (ho'4.out.move (Fr.of_below hb5))
  clear hb5 y4_6 z4_6 y4_7 z4_7 y4_9 z4_9 y4_10 z4_10 y4_11 z4_11
  go_wp2_with fail
  refine (eqTimer_nil).mono ?_
  rintro e wq ⟨rfl, hq⟩
  subst wq
  go_wp2_with fail
  refine (eqInt_nil).mono ?_
  rintro e wq ⟨rfl, hq⟩
  subst wq
  go_wp2_with fail
  refine (eqVal_c (xs := []) (B := B) (B' := B) (RowR.nil _ _ _) (RowR.nil _ _ _)).mono ?_
  rintro e w8 ⟨rfl, hb8⟩
  have HB8 := hid (HB5.out.trans (hb8.mono HB5.out.size))
  have y8_11 := carry hb8 l15 y5_11
  have z8_11 := carry hb8 l25 z5_11
  have l18 := Nat.lt_of_lt_of_le l15 hb8.size
  have l28 := Nat.lt_of_lt_of_le l25 hb8.size
  have ho8 := hid (ho5.out.move (Fr.of_below hb8))
  have ho'8 := hid (ho'5.out.move (Fr.of_below hb8))
  clear hb8 y5_7 z5_7 y5_9 z5_9 y5_10 z5_10 y5_11 z5_11
  go_wp2_with fail
  refine (eqStr_c ho8.out ho'8.out).mono ?_
  rintro e w9 ⟨rfl, hb9⟩
  have HB9 := hid (HB8.out.trans (hb9.mono HB8.out.size))
  have l19 := Nat.lt_of_lt_of_le l18 hb9.size
  have l29 := Nat.lt_of_lt_of_le l28 hb9.size
  clear hb9 y8_11 z8_11
  go_wp2_with fail
  go_ret
  exact ⟨rfl, HB9.out⟩
end
end Go.Proofs.Ytdgpblhmfkpblaa.Pg
