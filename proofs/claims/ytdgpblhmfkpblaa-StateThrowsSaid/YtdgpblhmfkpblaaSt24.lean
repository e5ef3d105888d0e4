/- Same. -/
import Derived.Test.YtdgpblhmfkpblaaSt23
namespace Go.Proofs.Ytdgpblhmfkpblaa.Pg
open Go.RowKit

section
variable {B B' : Bd} {w w' : World}
set_option maxHeartbeats 1600000 in
set_option maxRecDepth 100000 in
theorem sameCell_c {c : CD} {A1 A2 A3 A4 : Option Addr} {n1 p1 n2 p2 n3 p3 n4 p4 : Nat} (h : Reads B w c (.slice A1 n1 p1) (.slice A2 n2 p2)) (h' : Reads B' w c (.slice A3 n3 p3) (.slice A4 n4 p4)) :
    Calls Try.prog 55 #[.agg #[.int .i64 c.kind, .int .i64 c.a, .int .i64 c.b, .slice A1 n1 p1, .slice A2 n2 p2], .agg #[.int .i64 c.kind, .int .i64 c.a, .int .i64 c.b, .slice A3 n3 p3, .slice A4 n4 p4]] w fun e w' => e = .returned (.bool true) ∧ Below w.heap.size w w' := by
  have hb : Below w.heap.size w ((w.alloc (.cells #[.int .i64 c.kind, .int .i64 c.a, .int .i64 c.b, .slice A1 n1 p1, .slice A2 n2 p2] 47)).alloc (.cells #[.int .i64 c.kind, .int .i64 c.a, .int .i64 c.b, .slice A3 n3 p3, .slice A4 n4 p4] 47)) := ((Below.refl _ _).alloc (Nat.le_refl _) _).alloc (by go_size) _
  have r1 : ((w.alloc (.cells #[.int .i64 c.kind, .int .i64 c.a, .int .i64 c.b, .slice A1 n1 p1, .slice A2 n2 p2] 47)).alloc (.cells #[.int .i64 c.kind, .int .i64 c.a, .int .i64 c.b, .slice A3 n3 p3, .slice A4 n4 p4] 47)).heap[w.heap.size]? = some (.cells #[.int .i64 c.kind, .int .i64 c.a, .int .i64 c.b, .slice A1 n1 p1, .slice A2 n2 p2] 47 (0, 0)) := by
    rw [heap_alloc_old _ _ (by go_size), heap_alloc_new]
  have r2 := heap_alloc_new (w.alloc (.cells #[.int .i64 c.kind, .int .i64 c.a, .int .i64 c.b, .slice A1 n1 p1, .slice A2 n2 p2] 47)) (.cells #[.int .i64 c.kind, .int .i64 c.a, .int .i64 c.b, .slice A3 n3 p3, .slice A4 n4 p4] 47)
  rw [show (w.alloc (.cells #[.int .i64 c.kind, .int .i64 c.a, .int .i64 c.b, .slice A1 n1 p1, .slice A2 n2 p2] 47)).heap.size = w.heap.size + 1 by go_size] at r2
  have hz : ((w.alloc (.cells #[.int .i64 c.kind, .int .i64 c.a, .int .i64 c.b, .slice A1 n1 p1, .slice A2 n2 p2] 47)).alloc (.cells #[.int .i64 c.kind, .int .i64 c.a, .int .i64 c.b, .slice A3 n3 p3, .slice A4 n4 p4] 47)).heap.size = w.heap.size + 2 := by go_size
  have H := hid (h.move (Fr.of_below hb))
  have H' := hid (h'.move (Fr.of_below hb))
  have HB := hid hb
  clear h h' hb
  go_enter Try.func55, Try.ntmps55
  go_upto_region 1 with fail
  generalize ((w.alloc (.cells #[.int .i64 c.kind, .int .i64 c.a, .int .i64 c.b, .slice A1 n1 p1, .slice A2 n2 p2] 47)).alloc (.cells #[.int .i64 c.kind, .int .i64 c.a, .int .i64 c.b, .slice A3 n3 p3, .slice A4 n4 p4] 47)) = W at H H' HB r1 r2 hz ⊢
  have y0 := (cell_of_row _ _ 0 _ _ _ r1).trans (b := some (Value.int .i64 c.kind)) rfl
  have y1 := (cell_of_row _ _ 1 _ _ _ r1).trans (b := some (Value.int .i64 c.a)) rfl
  have y2 := (cell_of_row _ _ 2 _ _ _ r1).trans (b := some (Value.int .i64 c.b)) rfl
  have y3 := (cell_of_row _ _ 3 _ _ _ r1).trans (b := some (Value.slice A1 n1 p1)) rfl
  have y4 := (cell_of_row _ _ 4 _ _ _ r1).trans (b := some (Value.slice A2 n2 p2)) rfl
  have z0 := (cell_of_row _ _ 0 _ _ _ r2).trans (b := some (Value.int .i64 c.kind)) rfl
  have z1 := (cell_of_row _ _ 1 _ _ _ r2).trans (b := some (Value.int .i64 c.a)) rfl
  have z2 := (cell_of_row _ _ 2 _ _ _ r2).trans (b := some (Value.int .i64 c.b)) rfl
  have z3 := (cell_of_row _ _ 3 _ _ _ r2).trans (b := some (Value.slice A3 n3 p3)) rfl
  have z4 := (cell_of_row _ _ 4 _ _ _ r2).trans (b := some (Value.slice A4 n4 p4)) rfl
  have l1 : w.heap.size < W.heap.size := by omega
  have l2 : w.heap.size + 1 < W.heap.size := by omega
  clear r1 r2 hz
  go_wp2_with fail
  refine (eqStr_c H.out.k H'.out.k).mono ?_
  rintro e w2 ⟨rfl, hb2⟩
  have y4' := carry hb2 l1 y4
  have z4' := carry hb2 l2 z4
  have H2 := hid (H.out.move (Fr.of_below hb2))
  have H2' := hid (H'.out.move (Fr.of_below hb2))
  have HB2 := hid (HB.out.trans (hb2.mono (Nat.le_of_lt l1)))
  clear hb2 y0 y1 y2 y3 y4 z0 z1 z2 z3 z4
  go_wp2_with fail
  refine (eqVal_c H2.out.v H2'.out.v).mono ?_
  rintro e w3 ⟨rfl, hb3⟩
  have HB3 := hid (HB2.out.trans (hb3.mono HB2.out.size))
  clear hb3 y4' z4'
  go_wp2_with fail
  go_ret
  exact ⟨rfl, HB3.out⟩
set_option maxHeartbeats 1600000 in
set_option maxRecDepth 100000 in
theorem sameFrame_c {F : FrD} {A1 A2 A3 A4 : Option Addr} {n1 p1 n2 p2 n3 p3 n4 p4 : Nat} (h : RowR B w 3 (.slice A1 n1 p1) (F.vals.map VD.row)) (ht : RowR B w 3 (.slice A2 n2 p2) (F.tries.map TrD.row)) (h' : RowR B' w 3 (.slice A3 n3 p3) (F.vals.map VD.row)) (ht' : RowR B' w 3 (.slice A4 n4 p4) (F.tries.map TrD.row)) :
    Calls Try.prog 57 #[.agg #[.int .i64 F.fn, .int .i64 F.pc, .int .i64 F.scope, .int .i64 F.this.kind, .int .i64 F.this.n, .string F.this.s, .slice A1 n1 p1, .slice A2 n2 p2, .int .i64 F.gen], .agg #[.int .i64 F.fn, .int .i64 F.pc, .int .i64 F.scope, .int .i64 F.this.kind, .int .i64 F.this.n, .string F.this.s, .slice A3 n3 p3, .slice A4 n4 p4, .int .i64 F.gen]] w fun e w' => e = .returned (.bool true) ∧ Below w.heap.size w w' := by
  have hb : Below w.heap.size w ((w.alloc (.cells #[.int .i64 F.fn, .int .i64 F.pc, .int .i64 F.scope, .int .i64 F.this.kind, .int .i64 F.this.n, .string F.this.s, .slice A1 n1 p1, .slice A2 n2 p2, .int .i64 F.gen] 50)).alloc (.cells #[.int .i64 F.fn, .int .i64 F.pc, .int .i64 F.scope, .int .i64 F.this.kind, .int .i64 F.this.n, .string F.this.s, .slice A3 n3 p3, .slice A4 n4 p4, .int .i64 F.gen] 50)) := ((Below.refl _ _).alloc (Nat.le_refl _) _).alloc (by go_size) _
  have r1 : ((w.alloc (.cells #[.int .i64 F.fn, .int .i64 F.pc, .int .i64 F.scope, .int .i64 F.this.kind, .int .i64 F.this.n, .string F.this.s, .slice A1 n1 p1, .slice A2 n2 p2, .int .i64 F.gen] 50)).alloc (.cells #[.int .i64 F.fn, .int .i64 F.pc, .int .i64 F.scope, .int .i64 F.this.kind, .int .i64 F.this.n, .string F.this.s, .slice A3 n3 p3, .slice A4 n4 p4, .int .i64 F.gen] 50)).heap[w.heap.size]? = some (.cells #[.int .i64 F.fn, .int .i64 F.pc, .int .i64 F.scope, .int .i64 F.this.kind, .int .i64 F.this.n, .string F.this.s, .slice A1 n1 p1, .slice A2 n2 p2, .int .i64 F.gen] 50 (0, 0)) := by
    rw [heap_alloc_old _ _ (by go_size), heap_alloc_new]
  have r2 := heap_alloc_new (w.alloc (.cells #[.int .i64 F.fn, .int .i64 F.pc, .int .i64 F.scope, .int .i64 F.this.kind, .int .i64 F.this.n, .string F.this.s, .slice A1 n1 p1, .slice A2 n2 p2, .int .i64 F.gen] 50)) (.cells #[.int .i64 F.fn, .int .i64 F.pc, .int .i64 F.scope, .int .i64 F.this.kind, .int .i64 F.this.n, .string F.this.s, .slice A3 n3 p3, .slice A4 n4 p4, .int .i64 F.gen] 50)
  rw [show (w.alloc (.cells #[.int .i64 F.fn, .int .i64 F.pc, .int .i64 F.scope, .int .i64 F.this.kind, .int .i64 F.this.n, .string F.this.s, .slice A1 n1 p1, .slice A2 n2 p2, .int .i64 F.gen] 50)).heap.size = w.heap.size + 1 by go_size] at r2
  have hz : ((w.alloc (.cells #[.int .i64 F.fn, .int .i64 F.pc, .int .i64 F.scope, .int .i64 F.this.kind, .int .i64 F.this.n, .string F.this.s, .slice A1 n1 p1, .slice A2 n2 p2, .int .i64 F.gen] 50)).alloc (.cells #[.int .i64 F.fn, .int .i64 F.pc, .int .i64 F.scope, .int .i64 F.this.kind, .int .i64 F.this.n, .string F.this.s, .slice A3 n3 p3, .slice A4 n4 p4, .int .i64 F.gen] 50)).heap.size = w.heap.size + 2 := by go_size
  have H := hid (h.move (Fr.of_below hb))
  have H' := hid (h'.move (Fr.of_below hb))
  have HT := hid (ht.move (Fr.of_below hb))
  have HT' := hid (ht'.move (Fr.of_below hb))
  have HB := hid hb
  clear h h' hb ht ht'
  go_enter Try.func57, Try.ntmps57
  go_upto_region 1 with fail
  generalize ((w.alloc (.cells #[.int .i64 F.fn, .int .i64 F.pc, .int .i64 F.scope, .int .i64 F.this.kind, .int .i64 F.this.n, .string F.this.s, .slice A1 n1 p1, .slice A2 n2 p2, .int .i64 F.gen] 50)).alloc (.cells #[.int .i64 F.fn, .int .i64 F.pc, .int .i64 F.scope, .int .i64 F.this.kind, .int .i64 F.this.n, .string F.this.s, .slice A3 n3 p3, .slice A4 n4 p4, .int .i64 F.gen] 50)) = W at H H' HT HT' HB r1 r2 hz ⊢
  have y0 := (cell_of_row _ _ 0 _ _ _ r1).trans (b := some (Value.int .i64 F.fn)) rfl
  have y1 := (cell_of_row _ _ 1 _ _ _ r1).trans (b := some (Value.int .i64 F.pc)) rfl
  have y2 := (cell_of_row _ _ 2 _ _ _ r1).trans (b := some (Value.int .i64 F.scope)) rfl
  have y3 := (cell_of_row _ _ 3 _ _ _ r1).trans (b := some (Value.int .i64 F.this.kind)) rfl
  have y4 := (cell_of_row _ _ 4 _ _ _ r1).trans (b := some (Value.int .i64 F.this.n)) rfl
  have y5 := (cell_of_row _ _ 5 _ _ _ r1).trans (b := some (Value.string F.this.s)) rfl
  have y6 := (cell_of_row _ _ 6 _ _ _ r1).trans (b := some (Value.slice A1 n1 p1)) rfl
  have y7 := (cell_of_row _ _ 7 _ _ _ r1).trans (b := some (Value.slice A2 n2 p2)) rfl
  have y8 := (cell_of_row _ _ 8 _ _ _ r1).trans (b := some (Value.int .i64 F.gen)) rfl
  have z0 := (cell_of_row _ _ 0 _ _ _ r2).trans (b := some (Value.int .i64 F.fn)) rfl
  have z1 := (cell_of_row _ _ 1 _ _ _ r2).trans (b := some (Value.int .i64 F.pc)) rfl
  have z2 := (cell_of_row _ _ 2 _ _ _ r2).trans (b := some (Value.int .i64 F.scope)) rfl
  have z3 := (cell_of_row _ _ 3 _ _ _ r2).trans (b := some (Value.int .i64 F.this.kind)) rfl
  have z4 := (cell_of_row _ _ 4 _ _ _ r2).trans (b := some (Value.int .i64 F.this.n)) rfl
  have z5 := (cell_of_row _ _ 5 _ _ _ r2).trans (b := some (Value.string F.this.s)) rfl
  have z6 := (cell_of_row _ _ 6 _ _ _ r2).trans (b := some (Value.slice A3 n3 p3)) rfl
  have z7 := (cell_of_row _ _ 7 _ _ _ r2).trans (b := some (Value.slice A4 n4 p4)) rfl
  have z8 := (cell_of_row _ _ 8 _ _ _ r2).trans (b := some (Value.int .i64 F.gen)) rfl
  have l1 : w.heap.size < W.heap.size := by omega
  have l2 : w.heap.size + 1 < W.heap.size := by omega
  clear r1 r2 hz
  go_wp2_with fail
  refine (eqVal_c H.out H'.out).mono ?_
  rintro e w2 ⟨rfl, hb2⟩
  have y7' := carry hb2 l1 y7
  have z7' := carry hb2 l2 z7
  have H2 := hid (HT.out.move (Fr.of_below hb2))
  have H2' := hid (HT'.out.move (Fr.of_below hb2))
  have HB2 := hid (HB.out.trans (hb2.mono (Nat.le_of_lt l1)))
  clear hb2 y0 z0 y1 z1 y2 z2 y3 z3 y4 z4 y5 z5 y6 z6 y7 z7 y8 z8
  go_wp2_with fail
  refine (eqTry_c H2.out H2'.out).mono ?_
  rintro e w3 ⟨rfl, hb3⟩
  have HB3 := hid (HB2.out.trans (hb3.mono HB2.out.size))
  clear hb3 y7' z7'
  go_wp2_with fail
  go_ret
  exact ⟨rfl, HB3.out⟩
set_option maxHeartbeats 1600000 in
set_option maxRecDepth 100000 in
theorem eqfCell_c {l : List CD} {A A' : Option Addr} {n cap cap' : Nat} (h : CRow B w A n l) (h' : CRow B' w A' n l) (hnm : n ≤ 100000) :
    Calls Try.prog 54 #[.slice A n cap, .slice A' n cap', .func (.func 55) #[] #[]] w fun e w' => e = .returned (.bool true) ∧ Below w.heap.size w w' := by
  have HC := hid h
  have HC' := hid h'
  clear h h'
  go_enter Try.func54, Try.ntmps54
  go_wp2_with fail
  go_loopw [17] (fun i wx => ∃ k : Nat, k ≤ n ∧ i = .int .i64 k ∧ Box (Below w.heap.size w wx)) (fun i _ => n - (RowKit.intOf i).toNat)
  case atStart => exact ⟨0, by omega, rfl, hid (Below.refl _ _)⟩
  case round =>
    obtain ⟨k, hk, rfl, HB⟩ := hrel
    rcases Nat.lt_or_ge k n with hlt | hge
    · have hlt' : (k : Int) < (n : Int) := by omega
      have hkl : k < l.length := by have := HC.out.len; omega
      obtain ⟨c, hx⟩ : ∃ c, l[k]? = some c := ⟨l[k], List.getElem?_eq_getElem hkl⟩
      obtain ⟨b, o, rfl, hca⟩ := HC.out.at_ k c hx
      obtain ⟨b', o', rfl, hca'⟩ := HC'.out.at_ k c hx
      obtain ⟨A1, n1, p1, A2, n2, p2, y0, y1, y2, y3, y4, hr⟩ := hca.below (show Below w.heap.size w wr from HB.out)
      obtain ⟨A3, n3, p3, A4, n4, p4, z0, z1, z2, z3, z4, hr'⟩ := hca'.below (show Below w.heap.size w wr from HB.out)
      have HR := hid hr
      have HR' := hid hr'
      clear hca hca' hr hr' hx
      have s0 := HB.out.size
      have lb' := block_lt_of_cell z0
      have hb1 := (Below.refl wr.heap.size wr).alloc (Nat.le_refl _) (.cells #[.int .i64 c.kind, .int .i64 c.a, .int .i64 c.b, .slice A1 n1 p1, .slice A2 n2 p2] 47)
      have hb2 : Below wr.heap.size wr ((wr.alloc (.cells #[.int .i64 c.kind, .int .i64 c.a, .int .i64 c.b, .slice A1 n1 p1, .slice A2 n2 p2] 47)).alloc (.cells #[.int .i64 c.kind, .int .i64 c.a, .int .i64 c.b, .slice A3 n3 p3, .slice A4 n4 p4] 47)) := hb1.alloc (by go_size) _
      have r1 : ((wr.alloc (.cells #[.int .i64 c.kind, .int .i64 c.a, .int .i64 c.b, .slice A1 n1 p1, .slice A2 n2 p2] 47)).alloc (.cells #[.int .i64 c.kind, .int .i64 c.a, .int .i64 c.b, .slice A3 n3 p3, .slice A4 n4 p4] 47)).heap[wr.heap.size]? = some (.cells #[.int .i64 c.kind, .int .i64 c.a, .int .i64 c.b, .slice A1 n1 p1, .slice A2 n2 p2] 47 (0, 0)) := by
        rw [heap_alloc_old _ _ (by go_size), heap_alloc_new]
      have r2 := heap_alloc_new (wr.alloc (.cells #[.int .i64 c.kind, .int .i64 c.a, .int .i64 c.b, .slice A1 n1 p1, .slice A2 n2 p2] 47)) (.cells #[.int .i64 c.kind, .int .i64 c.a, .int .i64 c.b, .slice A3 n3 p3, .slice A4 n4 p4] 47)
      rw [show (wr.alloc (.cells #[.int .i64 c.kind, .int .i64 c.a, .int .i64 c.b, .slice A1 n1 p1, .slice A2 n2 p2] 47)).heap.size = wr.heap.size + 1 by go_size] at r2
      have hwl : wr.heap.size < ((wr.alloc (.cells #[.int .i64 c.kind, .int .i64 c.a, .int .i64 c.b, .slice A1 n1 p1, .slice A2 n2 p2] 47)).alloc (.cells #[.int .i64 c.kind, .int .i64 c.a, .int .i64 c.b, .slice A3 n3 p3, .slice A4 n4 p4] 47)).heap.size := by go_size
      have HB2 := hid (HB.out.trans (hb2.mono s0))
      have HBr := hid hb2
      go_upto_region 7 with fail
      clear hb1 hb2 y0 z0 y1 z1 y2 z2 y3 z3 y4 z4
      generalize ((wr.alloc (.cells #[.int .i64 c.kind, .int .i64 c.a, .int .i64 c.b, .slice A1 n1 p1, .slice A2 n2 p2] 47)).alloc (.cells #[.int .i64 c.kind, .int .i64 c.a, .int .i64 c.b, .slice A3 n3 p3, .slice A4 n4 p4] 47)) = W2 at HB2 HBr r1 r2 hwl ⊢
      have y0 := (cell_of_row _ _ 0 _ _ _ r1).trans (b := some (Value.int .i64 c.kind)) rfl
      have y1 := (cell_of_row _ _ 1 _ _ _ r1).trans (b := some (Value.int .i64 c.a)) rfl
      have y2 := (cell_of_row _ _ 2 _ _ _ r1).trans (b := some (Value.int .i64 c.b)) rfl
      have y3 := (cell_of_row _ _ 3 _ _ _ r1).trans (b := some (Value.slice A1 n1 p1)) rfl
      have y4 := (cell_of_row _ _ 4 _ _ _ r1).trans (b := some (Value.slice A2 n2 p2)) rfl
      have z0 := (cell_of_row _ _ 0 _ _ _ r2).trans (b := some (Value.int .i64 c.kind)) rfl
      have z1 := (cell_of_row _ _ 1 _ _ _ r2).trans (b := some (Value.int .i64 c.a)) rfl
      have z2 := (cell_of_row _ _ 2 _ _ _ r2).trans (b := some (Value.int .i64 c.b)) rfl
      have z3 := (cell_of_row _ _ 3 _ _ _ r2).trans (b := some (Value.slice A3 n3 p3)) rfl
      have z4 := (cell_of_row _ _ 4 _ _ _ r2).trans (b := some (Value.slice A4 n4 p4)) rfl
      go_wp2_with fail
      refine (sameCell_c (HR.out.move (Fr.of_below HBr.out)) (HR'.out.move (Fr.of_below HBr.out))).mono ?_
      rintro e w3 ⟨rfl, hb3⟩
      have HB3 := hid (HB2.out.trans (hb3.mono HB2.out.size))
      clear hb3 r1 r2 y0 z0 y1 z1 y2 z2 y3 z3 y4 z4
      go_wp2_with fail
      go_roundw
      case rel => exact ⟨k + 1, by omega, by go_num, HB3⟩
      case measure => simp [RowKit.intOf]; omega
    · obtain rfl : k = n := by omega
      go_wp2_with fail
      go_ret
      exact ⟨rfl, HB.out⟩
set_option maxHeartbeats 1600000 in
set_option maxRecDepth 100000 in
theorem eqfFrame_c {Fs : List FrD} {rows rows' : List (List Value)} {A A' : Option Addr} {n cap cap' : Nat} (h : RowR B w 9 (.slice A n cap) rows) (hF : FramesR B w Fs rows) (h' : RowR B' w 9 (.slice A' n cap') rows') (hF' : FramesR B' w Fs rows') (hnm : n ≤ 100000) :
    Calls Try.prog 56 #[.slice A n cap, .slice A' n cap', .func (.func 57) #[] #[]] w fun e w' => e = .returned (.bool true) ∧ Below w.heap.size w w' := by
  obtain ⟨hn, _, hg⟩ := h.get
  obtain ⟨hn', _, hg'⟩ := h'.get
  have HL := hid (show Fs.length = n from hF.1.symm.trans hn)
  have HG := hid hg
  have HG' := hid hg'
  have HF := hid hF
  have HF' := hid hF'
  clear h h' hF hF' hg hg' hn hn'
  go_enter Try.func56, Try.ntmps56
  go_wp2_with fail
  go_loopw [17] (fun i wx => ∃ k : Nat, k ≤ n ∧ i = .int .i64 k ∧ Box (Below w.heap.size w wx)) (fun i _ => n - (RowKit.intOf i).toNat)
  case atStart => exact ⟨0, by omega, rfl, hid (Below.refl _ _)⟩
  case round =>
    obtain ⟨k, hk, rfl, HB⟩ := hrel
    rcases Nat.lt_or_ge k n with hlt | hge
    · have hlt' : (k : Int) < (n : Int) := by omega
      have hkl : k < Fs.length := by have := HL.out; omega
      obtain ⟨F, hx⟩ : ∃ F, Fs[k]? = some F := ⟨Fs[k], List.getElem?_eq_getElem hkl⟩
      obtain ⟨c, hcr, A1, n1, p1, A2, n2, p2, rfl, hv, ht⟩ := HF.out.2 k F hx
      obtain ⟨c', hcr', A3, n3, p3, A4, n4, p4, rfl, hv', ht'⟩ := HF'.out.2 k F hx
      obtain ⟨b, o, rfl, _, hc⟩ := HG.out k _ hcr
      obtain ⟨b', o', rfl, _, hc'⟩ := HG'.out k _ hcr'
      have y0 := carry HB.out (block_lt_of_cell (hc 0 _ rfl)) (hc 0 _ rfl)
      have z0 := carry HB.out (block_lt_of_cell (hc' 0 _ rfl)) (hc' 0 _ rfl)
      have y1 := carry HB.out (block_lt_of_cell (hc 0 _ rfl)) (hc 1 _ rfl)
      have z1 := carry HB.out (block_lt_of_cell (hc' 0 _ rfl)) (hc' 1 _ rfl)
      have y2 := carry HB.out (block_lt_of_cell (hc 0 _ rfl)) (hc 2 _ rfl)
      have z2 := carry HB.out (block_lt_of_cell (hc' 0 _ rfl)) (hc' 2 _ rfl)
      have y3 := carry HB.out (block_lt_of_cell (hc 0 _ rfl)) (hc 3 _ rfl)
      have z3 := carry HB.out (block_lt_of_cell (hc' 0 _ rfl)) (hc' 3 _ rfl)
      have y4 := carry HB.out (block_lt_of_cell (hc 0 _ rfl)) (hc 4 _ rfl)
      have z4 := carry HB.out (block_lt_of_cell (hc' 0 _ rfl)) (hc' 4 _ rfl)
      have y5 := carry HB.out (block_lt_of_cell (hc 0 _ rfl)) (hc 5 _ rfl)
      have z5 := carry HB.out (block_lt_of_cell (hc' 0 _ rfl)) (hc' 5 _ rfl)
      have y6 := carry HB.out (block_lt_of_cell (hc 0 _ rfl)) (hc 6 _ rfl)
      have z6 := carry HB.out (block_lt_of_cell (hc' 0 _ rfl)) (hc' 6 _ rfl)
      have y7 := carry HB.out (block_lt_of_cell (hc 0 _ rfl)) (hc 7 _ rfl)
      have z7 := carry HB.out (block_lt_of_cell (hc' 0 _ rfl)) (hc' 7 _ rfl)
      have y8 := carry HB.out (block_lt_of_cell (hc 0 _ rfl)) (hc 8 _ rfl)
      have z8 := carry HB.out (block_lt_of_cell (hc' 0 _ rfl)) (hc' 8 _ rfl)
      simp only [Nat.add_zero] at y0 z0
      have HV := hid (hv.move (Fr.of_below HB.out))
      have HT := hid (ht.move (Fr.of_below HB.out))
      have HV' := hid (hv'.move (Fr.of_below HB.out))
      have HT' := hid (ht'.move (Fr.of_below HB.out))
      clear hcr hcr' hv ht hv' ht' hc hc' hx
      have s0 := HB.out.size
      have lb' := block_lt_of_cell z0
      have hb1 := (Below.refl wr.heap.size wr).alloc (Nat.le_refl _) (.cells #[.int .i64 F.fn, .int .i64 F.pc, .int .i64 F.scope, .int .i64 F.this.kind, .int .i64 F.this.n, .string F.this.s, .slice A1 n1 p1, .slice A2 n2 p2, .int .i64 F.gen] 50)
      have hb2 : Below wr.heap.size wr ((wr.alloc (.cells #[.int .i64 F.fn, .int .i64 F.pc, .int .i64 F.scope, .int .i64 F.this.kind, .int .i64 F.this.n, .string F.this.s, .slice A1 n1 p1, .slice A2 n2 p2, .int .i64 F.gen] 50)).alloc (.cells #[.int .i64 F.fn, .int .i64 F.pc, .int .i64 F.scope, .int .i64 F.this.kind, .int .i64 F.this.n, .string F.this.s, .slice A3 n3 p3, .slice A4 n4 p4, .int .i64 F.gen] 50)) := hb1.alloc (by go_size) _
      have r1 : ((wr.alloc (.cells #[.int .i64 F.fn, .int .i64 F.pc, .int .i64 F.scope, .int .i64 F.this.kind, .int .i64 F.this.n, .string F.this.s, .slice A1 n1 p1, .slice A2 n2 p2, .int .i64 F.gen] 50)).alloc (.cells #[.int .i64 F.fn, .int .i64 F.pc, .int .i64 F.scope, .int .i64 F.this.kind, .int .i64 F.this.n, .string F.this.s, .slice A3 n3 p3, .slice A4 n4 p4, .int .i64 F.gen] 50)).heap[wr.heap.size]? = some (.cells #[.int .i64 F.fn, .int .i64 F.pc, .int .i64 F.scope, .int .i64 F.this.kind, .int .i64 F.this.n, .string F.this.s, .slice A1 n1 p1, .slice A2 n2 p2, .int .i64 F.gen] 50 (0, 0)) := by
        rw [heap_alloc_old _ _ (by go_size), heap_alloc_new]
      have r2 := heap_alloc_new (wr.alloc (.cells #[.int .i64 F.fn, .int .i64 F.pc, .int .i64 F.scope, .int .i64 F.this.kind, .int .i64 F.this.n, .string F.this.s, .slice A1 n1 p1, .slice A2 n2 p2, .int .i64 F.gen] 50)) (.cells #[.int .i64 F.fn, .int .i64 F.pc, .int .i64 F.scope, .int .i64 F.this.kind, .int .i64 F.this.n, .string F.this.s, .slice A3 n3 p3, .slice A4 n4 p4, .int .i64 F.gen] 50)
      rw [show (wr.alloc (.cells #[.int .i64 F.fn, .int .i64 F.pc, .int .i64 F.scope, .int .i64 F.this.kind, .int .i64 F.this.n, .string F.this.s, .slice A1 n1 p1, .slice A2 n2 p2, .int .i64 F.gen] 50)).heap.size = wr.heap.size + 1 by go_size] at r2
      have hwl : wr.heap.size < ((wr.alloc (.cells #[.int .i64 F.fn, .int .i64 F.pc, .int .i64 F.scope, .int .i64 F.this.kind, .int .i64 F.this.n, .string F.this.s, .slice A1 n1 p1, .slice A2 n2 p2, .int .i64 F.gen] 50)).alloc (.cells #[.int .i64 F.fn, .int .i64 F.pc, .int .i64 F.scope, .int .i64 F.this.kind, .int .i64 F.this.n, .string F.this.s, .slice A3 n3 p3, .slice A4 n4 p4, .int .i64 F.gen] 50)).heap.size := by go_size
      have HB2 := hid (HB.out.trans (hb2.mono s0))
      have HBr := hid hb2
      go_upto_region 7 with fail
      clear hb1 hb2 y0 z0 y1 z1 y2 z2 y3 z3 y4 z4 y5 z5 y6 z6 y7 z7 y8 z8
      generalize ((wr.alloc (.cells #[.int .i64 F.fn, .int .i64 F.pc, .int .i64 F.scope, .int .i64 F.this.kind, .int .i64 F.this.n, .string F.this.s, .slice A1 n1 p1, .slice A2 n2 p2, .int .i64 F.gen] 50)).alloc (.cells #[.int .i64 F.fn, .int .i64 F.pc, .int .i64 F.scope, .int .i64 F.this.kind, .int .i64 F.this.n, .string F.this.s, .slice A3 n3 p3, .slice A4 n4 p4, .int .i64 F.gen] 50)) = W2 at HB2 HBr r1 r2 hwl ⊢
      have y0 := (cell_of_row _ _ 0 _ _ _ r1).trans (b := some (Value.int .i64 F.fn)) rfl
      have y1 := (cell_of_row _ _ 1 _ _ _ r1).trans (b := some (Value.int .i64 F.pc)) rfl
      have y2 := (cell_of_row _ _ 2 _ _ _ r1).trans (b := some (Value.int .i64 F.scope)) rfl
      have y3 := (cell_of_row _ _ 3 _ _ _ r1).trans (b := some (Value.int .i64 F.this.kind)) rfl
      have y4 := (cell_of_row _ _ 4 _ _ _ r1).trans (b := some (Value.int .i64 F.this.n)) rfl
      have y5 := (cell_of_row _ _ 5 _ _ _ r1).trans (b := some (Value.string F.this.s)) rfl
      have y6 := (cell_of_row _ _ 6 _ _ _ r1).trans (b := some (Value.slice A1 n1 p1)) rfl
      have y7 := (cell_of_row _ _ 7 _ _ _ r1).trans (b := some (Value.slice A2 n2 p2)) rfl
      have y8 := (cell_of_row _ _ 8 _ _ _ r1).trans (b := some (Value.int .i64 F.gen)) rfl
      have z0 := (cell_of_row _ _ 0 _ _ _ r2).trans (b := some (Value.int .i64 F.fn)) rfl
      have z1 := (cell_of_row _ _ 1 _ _ _ r2).trans (b := some (Value.int .i64 F.pc)) rfl
      have z2 := (cell_of_row _ _ 2 _ _ _ r2).trans (b := some (Value.int .i64 F.scope)) rfl
      have z3 := (cell_of_row _ _ 3 _ _ _ r2).trans (b := some (Value.int .i64 F.this.kind)) rfl
      have z4 := (cell_of_row _ _ 4 _ _ _ r2).trans (b := some (Value.int .i64 F.this.n)) rfl
      have z5 := (cell_of_row _ _ 5 _ _ _ r2).trans (b := some (Value.string F.this.s)) rfl
      have z6 := (cell_of_row _ _ 6 _ _ _ r2).trans (b := some (Value.slice A3 n3 p3)) rfl
      have z7 := (cell_of_row _ _ 7 _ _ _ r2).trans (b := some (Value.slice A4 n4 p4)) rfl
      have z8 := (cell_of_row _ _ 8 _ _ _ r2).trans (b := some (Value.int .i64 F.gen)) rfl
      go_wp2_with fail
      refine (sameFrame_c (HV.out.move (Fr.of_below HBr.out)) (HT.out.move (Fr.of_below HBr.out)) (HV'.out.move (Fr.of_below HBr.out)) (HT'.out.move (Fr.of_below HBr.out))).mono ?_
      rintro e w3 ⟨rfl, hb3⟩
      have HB3 := hid (HB2.out.trans (hb3.mono HB2.out.size))
      clear hb3 r1 r2 y0 z0 y1 z1 y2 z2 y3 z3 y4 z4 y5 z5 y6 z6 y7 z7 y8 z8
      go_wp2_with fail
      go_roundw
      case rel => exact ⟨k + 1, by omega, by go_num, HB3⟩
      case measure => simp [RowKit.intOf]; omega
    · obtain rfl : k = n := by omega
      go_wp2_with fail
      go_ret
      exact ⟨rfl, HB.out⟩
end
end Go.Proofs.Ytdgpblhmfkpblaa.Pg
