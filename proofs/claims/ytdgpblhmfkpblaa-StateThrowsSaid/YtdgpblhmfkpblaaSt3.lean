/- A frame in memory of its own. -/
import Derived.Test.YtdgpblhmfkpblaaSt2
namespace Go.Proofs.Ytdgpblhmfkpblaa.Pg
open Go.RowKit
theorem below_set {B : Nat} {a w : World} (h : Below B a w) {k : Nat} (hk : B ≤ k) (o : Nat) (u : Value) : Below B a (w.setCell ⟨k, o, none⟩ u) := h.setCell hk _
theorem ROut.stay {w w' : World} {base T sz : Nat} {v : Value} {rows : List (List Value)} (h : ROut w base T sz v rows) (hm : ∀ k, v.ownBlock = some k → w'.heap[k]? = w.heap[k]?) : ROut w' base T sz v rows := own_move h hm
/-- What lies in a block that no store touches stays. -/
theorem ROut.set {w : World} {base T sz k : Nat} {v : Value} {rows : List (List Value)} (h : ROut w base T sz v rows) (hk : k < base) (o : Nat) (u : Value) : ROut (w.setCell ⟨k, o, none⟩ u) base T sz v rows :=
  h.stay (fun g hg => set_ne _ (by have := (h.lt g hg).1; omega))

set_option maxHeartbeats 3200000 in
set_option maxRecDepth 100000 in
theorem frame_c {B : Bd} {w : World} {F : FrD} {A A' : Option Addr} {n p n' p' : Nat} (hv : RowR B w 3 (.slice A n p) (F.vals.map VD.row)) (ht : RowR B w 3 (.slice A' n' p') (F.tries.map TrD.row)) (hvn : n ≤ 100000) (htn : n' ≤ 100000) :
    Calls Try.prog 87 #[.agg #[.int .i64 F.fn, .int .i64 F.pc, .int .i64 F.scope, .int .i64 F.this.kind, .int .i64 F.this.n, .string F.this.s, .slice A n p, .slice A' n' p', .int .i64 F.gen]] w fun e w' => ∃ A1 n1 p1 A2 n2 p2, e = .returned (.agg #[.int .i64 F.fn, .int .i64 F.pc, .int .i64 F.scope, .int .i64 F.this.kind, .int .i64 F.this.n, .string F.this.s, .slice A1 n1 p1, .slice A2 n2 p2, .int .i64 F.gen]) ∧ Below w.heap.size w w' ∧
      ROut w' (w.heap.size + 2) 33 3 (.slice A1 n1 p1) (F.vals.map VD.row) ∧ ROut w' (w.heap.size + 2) 57 3 (.slice A2 n2 p2) (F.tries.map TrD.row) := by
  have HV := hid hv
  have HT := hid ht
  clear hv ht
  go_enter Try.func87, Try.ntmps87
  go_wp2_with fail
  have hbW : Below w.heap.size w ((w.alloc (Obj.cells #[.int .i64 F.fn, .int .i64 F.pc, .int .i64 F.scope, .int .i64 F.this.kind, .int .i64 F.this.n, .string F.this.s, .slice A n p, .slice A' n' p', .int .i64 F.gen] 50)).alloc (Obj.cells #[.int .i64 0, .int .i64 0, .int .i64 0, .int .i64 0, .int .i64 0, .string ⟨#[]⟩, .slice none 0 0, .slice none 0 0, .int .i64 0] 50)) :=
    ((Below.refl _ _).alloc (Nat.le_refl _) _).alloc (by simp) _
  have r1 : ((w.alloc (Obj.cells #[.int .i64 F.fn, .int .i64 F.pc, .int .i64 F.scope, .int .i64 F.this.kind, .int .i64 F.this.n, .string F.this.s, .slice A n p, .slice A' n' p', .int .i64 F.gen] 50)).alloc (Obj.cells #[.int .i64 0, .int .i64 0, .int .i64 0, .int .i64 0, .int .i64 0, .string ⟨#[]⟩, .slice none 0 0, .slice none 0 0, .int .i64 0] 50)).heap[w.heap.size]? = some (.cells #[.int .i64 F.fn, .int .i64 F.pc, .int .i64 F.scope, .int .i64 F.this.kind, .int .i64 F.this.n, .string F.this.s, .slice A n p, .slice A' n' p', .int .i64 F.gen] 50 (0, 0)) := by
    rw [heap_alloc_old _ _ (by simp), heap_alloc_new]
  have r2 := heap_alloc_new (w.alloc (Obj.cells #[.int .i64 F.fn, .int .i64 F.pc, .int .i64 F.scope, .int .i64 F.this.kind, .int .i64 F.this.n, .string F.this.s, .slice A n p, .slice A' n' p', .int .i64 F.gen] 50)) (Obj.cells #[.int .i64 0, .int .i64 0, .int .i64 0, .int .i64 0, .int .i64 0, .string ⟨#[]⟩, .slice none 0 0, .slice none 0 0, .int .i64 0] 50)
  rw [show (w.alloc (Obj.cells #[.int .i64 F.fn, .int .i64 F.pc, .int .i64 F.scope, .int .i64 F.this.kind, .int .i64 F.this.n, .string F.this.s, .slice A n p, .slice A' n' p', .int .i64 F.gen] 50)).heap.size = w.heap.size + 1 by simp] at r2
  have hz : ((w.alloc (Obj.cells #[.int .i64 F.fn, .int .i64 F.pc, .int .i64 F.scope, .int .i64 F.this.kind, .int .i64 F.this.n, .string F.this.s, .slice A n p, .slice A' n' p', .int .i64 F.gen] 50)).alloc (Obj.cells #[.int .i64 0, .int .i64 0, .int .i64 0, .int .i64 0, .int .i64 0, .string ⟨#[]⟩, .slice none 0 0, .slice none 0 0, .int .i64 0] 50)).heap.size = w.heap.size + 2 := by simp
  generalize ((w.alloc (Obj.cells #[.int .i64 F.fn, .int .i64 F.pc, .int .i64 F.scope, .int .i64 F.this.kind, .int .i64 F.this.n, .string F.this.s, .slice A n p, .slice A' n' p', .int .i64 F.gen] 50)).alloc (Obj.cells #[.int .i64 0, .int .i64 0, .int .i64 0, .int .i64 0, .int .i64 0, .string ⟨#[]⟩, .slice none 0 0, .slice none 0 0, .int .i64 0] 50)) = W at hbW r1 r2 hz ⊢
  have c0 := (cell_of_row W _ 0 _ _ _ r1).trans (b := some (Value.int IntKind.i64 F.fn)) rfl
  have c1 := (cell_of_row W _ 1 _ _ _ r1).trans (b := some (Value.int IntKind.i64 F.pc)) rfl
  have c2 := (cell_of_row W _ 2 _ _ _ r1).trans (b := some (Value.int IntKind.i64 F.scope)) rfl
  have c3 := (cell_of_row W _ 3 _ _ _ r1).trans (b := some (Value.int IntKind.i64 F.this.kind)) rfl
  have c4 := (cell_of_row W _ 4 _ _ _ r1).trans (b := some (Value.int IntKind.i64 F.this.n)) rfl
  have c5 := (cell_of_row W _ 5 _ _ _ r1).trans (b := some (Value.string F.this.s)) rfl
  have c6 := (cell_of_row W _ 6 _ _ _ r1).trans (b := some (Value.slice A n p)) rfl
  have c7 := (cell_of_row W _ 7 _ _ _ r1).trans (b := some (Value.slice A' n' p')) rfl
  have c8 := (cell_of_row W _ 8 _ _ _ r1).trans (b := some (Value.int IntKind.i64 F.gen)) rfl
  have f6 : W.frozen? ⟨w.heap.size, 6, none⟩ = false := by simp [World.frozen?, r1]
  have f7 : W.frozen? ⟨w.heap.size, 7, none⟩ = false := by simp [World.frozen?, r1]
  have hzz : w.heap.size < W.heap.size := by omega
  have R2 := hid r2
  have R1 := hid r1
  have HB := hid hbW
  clear r1 r2 hbW
  go_region_with (first
    | (go_at_call 94; refine (copiedVal_c (B := B) (xs := F.vals) (HV.out.move (Fr.of_below ?_)) hvn).mono ?_; (first | exact HB.out.drew | exact HB.out.trans (HB2.out.mono (by omega))); rintro e w1 ⟨v', rfl, hb1', hr1⟩; obtain ⟨A1, p1, e1⟩ := hr1.slice; rw [List.length_map] at e1; subst e1; have hb1 := below_drew hb1'; clear hb1'; have d0 := carry hb1 hzz c0; have d1 := carry hb1 hzz c1; have d2 := carry hb1 hzz c2; have d3 := carry hb1 hzz c3; have d4 := carry hb1 hzz c4; have d5 := carry hb1 hzz c5; have d6 := carry hb1 hzz c6; have d7 := carry hb1 hzz c7; have d8 := carry hb1 hzz c8; have g6 := carryF hb1 hzz f6; have g7 := carryF hb1 hzz f7; have hs1 : W.heap.size ≤ w1.heap.size := hb1.size; have hz1 : w.heap.size < w1.heap.size := (by omega); have HB1 := hid hb1; have HR1 := hid hr1; clear hb1 hr1)
    | (go_at_call 114; refine (copiedTry_c (B := B) (xs := F.tries) (HT.out.move (Fr.of_below ?_)) htn).mono ?_; (first | exact HB.out.drew | exact HB.out.trans (HB1.out.mono (by omega))); rintro e w2 ⟨v', rfl, hb2', hr2⟩; obtain ⟨A2, p2, e2⟩ := hr2.slice; rw [List.length_map] at e2; subst e2; have e0 := carry hb2' hz1 d0; have e1 := carry hb2' hz1 d1; have e2 := carry hb2' hz1 d2; have e3 := carry hb2' hz1 d3; have e4 := carry hb2' hz1 d4; have e5 := carry hb2' hz1 d5; have e6 := carry hb2' hz1 d6; have e7 := carry hb2' hz1 d7; have e8 := carry hb2' hz1 d8; have k6 := carryF hb2' hz1 g6; have k7 := carryF hb2' hz1 g7; have hs2 : w1.heap.size ≤ w2.heap.size := hb2'.size; have HB2 := hid hb2'; have HR2 := hid hr2; clear hb2' hr2))
  all_goals
    have HR := hid (HR1.out.below HB2.out)
    have q2 := (HB2.out.block (w.heap.size + 1) (by omega)).trans ((HB1.out.block (w.heap.size + 1) (by omega)).trans R2.out)
    have y0 := (cell_of_row w2 _ 0 _ _ _ q2).trans (b := some (Value.int IntKind.i64 0)) rfl
    have z0 : w2.frozen? ⟨w.heap.size + 1, 0, none⟩ = false := by simp [World.frozen?, q2]
    have y1 := (cell_of_row w2 _ 1 _ _ _ q2).trans (b := some (Value.int IntKind.i64 0)) rfl
    have z1 : w2.frozen? ⟨w.heap.size + 1, 1, none⟩ = false := by simp [World.frozen?, q2]
    have y2 := (cell_of_row w2 _ 2 _ _ _ q2).trans (b := some (Value.int IntKind.i64 0)) rfl
    have z2 : w2.frozen? ⟨w.heap.size + 1, 2, none⟩ = false := by simp [World.frozen?, q2]
    have y3 := (cell_of_row w2 _ 3 _ _ _ q2).trans (b := some (Value.int IntKind.i64 0)) rfl
    have z3 : w2.frozen? ⟨w.heap.size + 1, 3, none⟩ = false := by simp [World.frozen?, q2]
    have y4 := (cell_of_row w2 _ 4 _ _ _ q2).trans (b := some (Value.int IntKind.i64 0)) rfl
    have z4 : w2.frozen? ⟨w.heap.size + 1, 4, none⟩ = false := by simp [World.frozen?, q2]
    have y5 := (cell_of_row w2 _ 5 _ _ _ q2).trans (b := some (Value.string ⟨#[]⟩)) rfl
    have z5 : w2.frozen? ⟨w.heap.size + 1, 5, none⟩ = false := by simp [World.frozen?, q2]
    have y6 := (cell_of_row w2 _ 6 _ _ _ q2).trans (b := some (Value.slice none 0 0)) rfl
    have z6 : w2.frozen? ⟨w.heap.size + 1, 6, none⟩ = false := by simp [World.frozen?, q2]
    have y7 := (cell_of_row w2 _ 7 _ _ _ q2).trans (b := some (Value.slice none 0 0)) rfl
    have z7 : w2.frozen? ⟨w.heap.size + 1, 7, none⟩ = false := by simp [World.frozen?, q2]
    have y8 := (cell_of_row w2 _ 8 _ _ _ q2).trans (b := some (Value.int IntKind.i64 0)) rfl
    have z8 : w2.frozen? ⟨w.heap.size + 1, 8, none⟩ = false := by simp [World.frozen?, q2]
    clear HR1 q2 c0 c1 c2 c3 c4 c5 c6 c7 c8 f6 f7 d0 d1 d2 d3 d4 d5 d6 d7 d8 g6 g7
    go_wp2
    refine bodyPost_ret (v := .agg #[.int .i64 F.fn, .int .i64 F.pc, .int .i64 F.scope, .int .i64 F.this.kind, .int .i64 F.this.n, .string F.this.s, .slice A1 F.vals.length p1, .slice A2 F.tries.length p2, .int .i64 F.gen]) (by simp [results, Try.results87, go_sem, y0, y1, y2, y3, y4, y5, y6, y7, y8]) rfl ⟨_, _, _, _, _, _, rfl, ?_, ?_, ?_⟩
    · exact (below_set (below_set (below_set (below_set (below_set (below_set (below_set (below_set (below_set (below_set (below_set (HB.out.trans ((HB1.out.mono (by omega)).trans (HB2.out.mono (by omega)))) (Nat.le_refl _) _ _) (Nat.le_refl _) _ _) (Nat.le_succ _) _ _) (Nat.le_succ _) _ _) (Nat.le_succ _) _ _) (Nat.le_succ _) _ _) (Nat.le_succ _) _ _) (Nat.le_succ _) _ _) (Nat.le_succ _) _ _) (Nat.le_succ _) _ _) (Nat.le_succ _) _ _)
    · exact ((((((((((((ROut.low HR.out (show w.heap.size + 2 ≤ W.heap.size by omega)).set (by omega) _ _).set (by omega) _ _).set (by omega) _ _).set (by omega) _ _).set (by omega) _ _).set (by omega) _ _).set (by omega) _ _).set (by omega) _ _).set (by omega) _ _).set (by omega) _ _).set (by omega) _ _)
    · exact ((((((((((((ROut.low HR2.out (show w.heap.size + 2 ≤ w1.heap.size by omega)).set (by omega) _ _).set (by omega) _ _).set (by omega) _ _).set (by omega) _ _).set (by omega) _ _).set (by omega) _ _).set (by omega) _ _).set (by omega) _ _).set (by omega) _ _).set (by omega) _ _).set (by omega) _ _)
end Go.Proofs.Ytdgpblhmfkpblaa.Pg
