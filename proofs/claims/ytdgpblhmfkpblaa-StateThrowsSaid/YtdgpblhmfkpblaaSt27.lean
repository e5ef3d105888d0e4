/- Calls on no state; a view, read; the document's example of package state. -/
import Derived.Test.YtdgpblhmfkpblaaSt25
namespace Go.Proofs.Ytdgpblhmfkpblaa.Pg
open Go.RowKit

def B0 : Bd := ⟨0, fun _ => False⟩
/-- A view, read. -/
structure ViewR (B : Bd) (w : World) (Ac : Option Addr) (A1 : Option Addr) (p1 : Nat) (A2 : Option Addr) (p2 : Nat) (A3 : Option Addr) (p3 : Nat) (rows : List (List Value)) (P : PS) : Prop where
  cells : CRow B w Ac P.cells.length P.cells
  fr : RowR B0 w 9 (.slice A1 P.frames.length p1) rows
  frs : FramesR B0 w P.frames rows
  jobs : RowR B0 w 8 (.slice A2 P.jobs.length p2) (P.jobs.map JobD.row)
  outs : RowR B0 w 1 (.slice A3 P.outs.length p3) (P.outs.map keyRow)
section
variable {B B' : Bd} {w w' : World} {G G' : SG} {P P' : PS} {D D' : FD}
theorem ViewO.form {base : Nat} {v : Value} (h : ViewO B w base v P) : ∃ Ac pc A1 p1 A2 p2 A3 p3 rows, v = .agg #[.int .i64 P.status, .int .i64 0, .int .i64 0, .slice Ac P.cells.length pc, .slice A1 P.frames.length p1, .int .i64 0, .slice A2 P.jobs.length p2, .slice none 0 0, .int .i64 0, .slice none 0 0, .slice none 0 0, .slice A3 P.outs.length p3] ∧ ViewR B w Ac A1 p1 A2 p2 A3 p3 rows P := by
  obtain ⟨Ac, nc, pc, A1, n1, p1, A2, n2, p2, A3, n3, p3, rows, rfl, h1, h2, h3, h4, h5⟩ := h
  obtain ⟨A, cap, e1, _, hc⟩ := h1.slice
  injection e1 with e1 e2 e3
  subst e1 e2 e3
  have r1 := h2.rowR (B := B0) (by decide) (fun k hk => hk.elim) (fun c hc => by
    obtain ⟨i, hi, rfl⟩ := List.getElem_of_mem hc
    have hi' : i < P.frames.length := by rw [← h3.1]; exact hi
    obtain ⟨c, hc, A, n, p, A', n', p', e, _⟩ := h3.2 i _ (List.getElem?_eq_getElem hi')
    rw [List.getElem?_eq_getElem hi] at hc
    rw [Option.some.inj hc, e]; rfl)
  have r3 := h4.rowR (B := B0) (by decide) (fun k hk => hk.elim) JobD.row_len
  have r4 := h5.rowR (B := B0) (by decide) (fun k hk => hk.elim) (fun c hc => by obtain ⟨v, _, rfl⟩ := List.mem_map.1 hc; rfl)
  have f1 := h3.framesR (B := B0) (fun k hk => hk.elim)
  have l1 := r1.get.1
  have l3 := r3.get.1
  have l4 := r4.get.1
  rw [h3.1] at l1
  rw [List.length_map] at l3 l4
  subst l1 l3 l4
  exact ⟨_, _, _, _, _, _, _, _, rows, rfl, hc, r1, f1, r3, r4⟩
theorem ViewR.below {Ac A1 A2 A3 : Option Addr} {p1 p2 p3 : Nat} {rows : List (List Value)} (h : ViewR B w Ac A1 p1 A2 p2 A3 p3 rows P) (hb : Below w.heap.size w w') : ViewR B w' Ac A1 p1 A2 p2 A3 p3 rows P :=
  ⟨h.cells.below hb, h.fr.move (Fr.of_below hb), h.frs.move (Fr.of_below hb), h.jobs.move (Fr.of_below hb), h.outs.move (Fr.of_below hb)⟩
set_option maxHeartbeats 800000 in
set_option maxRecDepth 100000 in
theorem new_none (w : World) : Calls Try.prog 13 #[.slice none 0 0] w fun e w' => e = .returned (.tuple #[.pointer none, .int .i64 1]) ∧ w' = w := by
  go_enter Try.func13, Try.ntmps13
  go_wp2_with fail
  go_ret2
  exact ⟨rfl, rfl⟩
set_option maxHeartbeats 800000 in
set_option maxRecDepth 100000 in
theorem new_gen {b o n cap : Nat} (hn : 0 < n) (hc : w.cell? ⟨b, o + 3, none⟩ = some (.bool true)) : Calls Try.prog 13 #[.slice (some ⟨b, o, none⟩) n cap] w fun e w' => e = .returned (.tuple #[.pointer none, .int .i64 1]) ∧ w' = w := by
  have h0 : ((n : Int) == 0) = false := by rw [beq_eq_false_iff_ne]; omega
  have h1 : (0 : Int) < (n : Int) := by omega
  go_enter Try.func13, Try.ntmps13
  go_wp2_with fail
  go_ret2
  exact ⟨rfl, rfl⟩
set_option maxHeartbeats 800000 in
set_option maxRecDepth 100000 in
theorem enter_nil (w : World) (k a : Int) (v : VD) (A : Option Addr) (n cap : Nat) : Calls Try.prog 16 #[.pointer none, .int .i64 k, .int .i64 a, v.agg, .slice A n cap] w fun e w' => e = .returned (.int .i64 2) ∧ Below w.heap.size w w' := by
  have HB := hid ((Below.refl w.heap.size w).alloc (Nat.le_refl _) (.cells #[.int .i64 v.kind, .int .i64 v.n, .string v.s] 33))
  unfold VD.agg
  go_enter Try.func16, Try.ntmps16
  go_wp2_with fail
  go_ret
  exact ⟨rfl, HB.out⟩
set_option maxHeartbeats 800000 in
set_option maxRecDepth 100000 in
theorem smark_nil (w : World) : Calls Try.prog 27 #[.pointer none] w fun e w' => e = .returned (.pointer none) ∧ w' = w := by
  go_enter Try.func27, Try.ntmps27
  go_wp2_with fail
  go_ret
  exact ⟨rfl, rfl⟩
set_option maxHeartbeats 800000 in
set_option maxRecDepth 100000 in
theorem all_nil (w : World) : Calls Try.prog 18 #[.pointer none] w fun e w' => e = .returned (.agg #[.int .i64 0, .int .i64 0, .int .i64 0, .slice none 0 0, .slice none 0 0, .int .i64 0, .slice none 0 0, .slice none 0 0, .int .i64 0, .slice none 0 0, .slice none 0 0, .slice none 0 0]) ∧ Below w.heap.size w w' := by
  have r := heap_alloc_new w (.cells #[.int .i64 0, .int .i64 0, .int .i64 0, .slice none 0 0, .slice none 0 0, .int .i64 0, .slice none 0 0, .slice none 0 0, .int .i64 0, .slice none 0 0, .slice none 0 0, .slice none 0 0] 44)
  have z0 := (cell_of_row _ _ 0 _ _ _ r).trans (b := some (Value.int .i64 0)) rfl
  have z1 := (cell_of_row _ _ 1 _ _ _ r).trans (b := some (Value.int .i64 0)) rfl
  have z2 := (cell_of_row _ _ 2 _ _ _ r).trans (b := some (Value.int .i64 0)) rfl
  have z3 := (cell_of_row _ _ 3 _ _ _ r).trans (b := some (Value.slice none 0 0)) rfl
  have z4 := (cell_of_row _ _ 4 _ _ _ r).trans (b := some (Value.slice none 0 0)) rfl
  have z5 := (cell_of_row _ _ 5 _ _ _ r).trans (b := some (Value.int .i64 0)) rfl
  have z6 := (cell_of_row _ _ 6 _ _ _ r).trans (b := some (Value.slice none 0 0)) rfl
  have z7 := (cell_of_row _ _ 7 _ _ _ r).trans (b := some (Value.slice none 0 0)) rfl
  have z8 := (cell_of_row _ _ 8 _ _ _ r).trans (b := some (Value.int .i64 0)) rfl
  have z9 := (cell_of_row _ _ 9 _ _ _ r).trans (b := some (Value.slice none 0 0)) rfl
  have z10 := (cell_of_row _ _ 10 _ _ _ r).trans (b := some (Value.slice none 0 0)) rfl
  have z11 := (cell_of_row _ _ 11 _ _ _ r).trans (b := some (Value.slice none 0 0)) rfl
  go_enter Try.func18, Try.ntmps18
  go_wp2_with fail
  refine bodyPost_ret (v := .agg #[.int .i64 0, .int .i64 0, .int .i64 0, .slice none 0 0, .slice none 0 0, .int .i64 0, .slice none 0 0, .slice none 0 0, .int .i64 0, .slice none 0 0, .slice none 0 0, .slice none 0 0]) (by simp [results, Try.results18, go_sem, z0, z1, z2, z3, z4, z5, z6, z7, z8, z9, z10, z11]) rfl ?_
  exact ⟨rfl, (Below.refl _ _).alloc (Nat.le_refl _) _⟩
set_option maxHeartbeats 800000 in
set_option maxRecDepth 100000 in
theorem error_nil (w : World) (x : Int) (t : ByteArray) : Calls Try.prog 26 #[.pointer none, .int .i64 x, .string t] w fun e w' => e = .returned (.tuple #[undefV.agg, .int .i64 2]) ∧ Below w.heap.size w w' := by
  obtain ⟨y0, y1, y2⟩ := val_cells w (.int .i64 0) (.int .i64 0) (.string ⟨#[]⟩)
  go_enter Try.func26, Try.ntmps26
  go_wp2_with fail
  refine bodyPost_ret (v := .tuple #[undefV.agg, .int .i64 2]) (by simp [results, Try.results26, go_sem, y0, y1, y2, VD.agg, undefV] <;> rfl) rfl ?_
  exact ⟨rfl, (Below.refl _ _).alloc (Nat.le_refl _) _⟩
end
end Go.Proofs.Ytdgpblhmfkpblaa.Pg
