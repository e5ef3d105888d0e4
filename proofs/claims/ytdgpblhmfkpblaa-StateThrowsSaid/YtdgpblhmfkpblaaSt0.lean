/- Data of package state: values, tries, frames, jobs, functions; small calls. -/
import Derived.Test.YtdgpblhmfkpblaaPg27
namespace Go.Proofs.Ytdgpblhmfkpblaa.Pg
open Go.RowKit

structure TrD where
  pc : Int
  vals : Int
  scope : Int
def TrD.row (t : TrD) : List Value := [.int .i64 t.pc, .int .i64 t.vals, .int .i64 t.scope]
structure FrD where
  fn : Int
  pc : Int
  scope : Int
  this : VD
  vals : List VD
  tries : List TrD
  gen : Int
structure JobD where
  fn : VD
  arg : VD
  child : Int
  kept : Bool
def JobD.row (j : JobD) : List Value := j.fn.row ++ j.arg.row ++ [.int .i64 j.child, .bool j.kept]
structure FunD where
  name : ByteArray
  params : Int
  slots : Int
  gen : Bool
  code : Value
def FunD.row (f : FunD) : List Value := [.string f.name, .int .i64 f.params, .int .i64 f.slots, .bool f.gen, f.code]
def VD.agg (v : VD) : Value := .agg #[.int .i64 v.kind, .int .i64 v.n, .string v.s]
def numV (n : Int) : VD := ⟨3, n, ByteArray.empty⟩
def refV (n : Int) : VD := ⟨5, n, ByteArray.empty⟩
def undefV : VD := ⟨0, 0, ByteArray.empty⟩
def holeV : VD := ⟨7, 0, ByteArray.empty⟩

section
variable {w : World}
theorem below_set3 {b : Nat} (hb : w.heap.size ≤ b) {w1 : World} (h : Below w.heap.size w w1) (u0 u1 u2 : Value) :
    Below w.heap.size w (((w1.setCell ⟨b, 0, none⟩ u0).setCell ⟨b, 1, none⟩ u1).setCell ⟨b, 2, none⟩ u2) := ((h.setCell hb _).setCell hb _).setCell hb _

/-- A new value in memory. -/
theorem val_cells (w : World) (x y z : Value) :
    (w.alloc (.cells #[x, y, z] 33)).cell? ⟨w.heap.size, 0, none⟩ = some x ∧ (w.alloc (.cells #[x, y, z] 33)).cell? ⟨w.heap.size, 1, none⟩ = some y ∧ (w.alloc (.cells #[x, y, z] 33)).cell? ⟨w.heap.size, 2, none⟩ = some z := by
  have r := heap_alloc_new w (.cells #[x, y, z] 33)
  exact ⟨cell_of_row _ _ 0 _ _ _ r, cell_of_row _ _ 1 _ _ _ r, cell_of_row _ _ 2 _ _ _ r⟩
set_option maxHeartbeats 800000 in
set_option maxRecDepth 100000 in
theorem num_c (n : Int) : Calls Try.prog 49 #[.int .i64 n] w fun e w' => e = .returned (numV n).agg ∧ Below w.heap.size w w' := by
  go_enter Try.func49, Try.ntmps49
  go_wp2
  obtain ⟨y0, y1, y2⟩ := val_cells w (.int .i64 3) (.int .i64 n) (.string ⟨#[]⟩)
  refine bodyPost_ret (v := (numV n).agg) (by simp [results, Try.results49, go_sem, y0, y1, y2, VD.agg, numV] <;> rfl) rfl ?_
  exact ⟨rfl, (Below.refl _ _).alloc (Nat.le_refl _) _⟩
set_option maxHeartbeats 800000 in
set_option maxRecDepth 100000 in
theorem ref_c (n : Int) : Calls Try.prog 50 #[.int .i64 n] w fun e w' => e = .returned (refV n).agg ∧ Below w.heap.size w w' := by
  go_enter Try.func50, Try.ntmps50
  go_wp2
  obtain ⟨y0, y1, y2⟩ := val_cells w (.int .i64 5) (.int .i64 n) (.string ⟨#[]⟩)
  refine bodyPost_ret (v := (refV n).agg) (by simp [results, Try.results50, go_sem, y0, y1, y2, VD.agg, refV] <;> rfl) rfl ?_
  exact ⟨rfl, (Below.refl _ _).alloc (Nat.le_refl _) _⟩
set_option maxHeartbeats 800000 in
set_option maxRecDepth 100000 in
theorem rnum_c (n : Int) : Calls Try.prog 15 #[.int .i64 n] w fun e w' => e = .returned (numV n).agg ∧ Below w.heap.size w w' := by
  go_enter Try.func15, Try.ntmps15
  go_wp2
  obtain ⟨y0, y1, y2⟩ := val_cells w (.int .i64 3) (.int .i64 n) (.string ⟨#[]⟩)
  refine bodyPost_ret (v := (numV n).agg) (by simp [results, Try.results15, go_sem, y0, y1, y2, VD.agg, numV] <;> rfl) rfl ?_
  exact ⟨rfl, (Below.refl _ _).alloc (Nat.le_refl _) _⟩
set_option maxHeartbeats 800000 in
set_option maxRecDepth 100000 in
theorem rref_c (n : Int) : Calls Try.prog 19 #[.int .i64 n] w fun e w' => e = .returned (refV n).agg ∧ Below w.heap.size w w' := by
  go_enter Try.func19, Try.ntmps19
  go_wp2
  obtain ⟨y0, y1, y2⟩ := val_cells w (.int .i64 5) (.int .i64 n) (.string ⟨#[]⟩)
  refine bodyPost_ret (v := (refV n).agg) (by simp [results, Try.results19, go_sem, y0, y1, y2, VD.agg, refV] <;> rfl) rfl ?_
  exact ⟨rfl, (Below.refl _ _).alloc (Nat.le_refl _) _⟩
set_option maxHeartbeats 800000 in
set_option maxRecDepth 100000 in
theorem rstr_c (s : ByteArray) : Calls Try.prog 17 #[.string s] w fun e w' => e = .returned (VD.agg (VD.mk 4 0 s)) ∧ Below w.heap.size w w' := by
  go_enter Try.func17, Try.ntmps17
  go_wp2
  obtain ⟨y0, y1, y2⟩ := val_cells w (.int .i64 4) (.int .i64 0) (.string s)
  refine bodyPost_ret (v := (VD.mk 4 0 s).agg) (by simp [results, Try.results17, go_sem, y0, y1, y2, VD.agg] <;> rfl) rfl ?_
  exact ⟨rfl, (Below.refl _ _).alloc (Nat.le_refl _) _⟩
end
end Go.Proofs.Ytdgpblhmfkpblaa.Pg
