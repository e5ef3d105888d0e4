/- A job, a promise. -/
import Derived.Test.YtdgpblhmfkpblaaSt11
import Derived.Handy
namespace Go.Proofs.Ytdgpblhmfkpblaa.Pg
open Go.RowKit

section
variable {B B' : Bd} {w w' : World} {G G' : SG} {P P' : PS} {D D' : FD}
set_option maxHeartbeats 1600000 in
set_option maxRecDepth 100000 in
theorem job_c (h : St1 B w D G P) (k : Bool) (arg f g : VD) (child : Int) (hn : P.jobs.length ≤ 100000) :
    Calls Try.prog 71 #[ptr G.at_, .bool k, arg.agg, f.agg, g.agg, .int .i64 child] w fun e w' => e = .returned (.tuple #[]) ∧ Next1 B w D G w' { P with jobs := P.jobs ++ [⟨if k then f else g, arg, child, k⟩] } := by
  have hbW : Below w.heap.size w (((w.alloc (.cells #[.int .i64 arg.kind, .int .i64 arg.n, .string arg.s] 33)).alloc (.cells #[.int .i64 f.kind, .int .i64 f.n, .string f.s] 33)).alloc (.cells #[.int .i64 g.kind, .int .i64 g.n, .string g.s] 33)) := (((Below.refl _ _).alloc (Nat.le_refl _) _).alloc (by go_size) _).alloc (by go_size) _
  have r0 : (((w.alloc (.cells #[.int .i64 arg.kind, .int .i64 arg.n, .string arg.s] 33)).alloc (.cells #[.int .i64 f.kind, .int .i64 f.n, .string f.s] 33)).alloc (.cells #[.int .i64 g.kind, .int .i64 g.n, .string g.s] 33)).heap[w.heap.size]? = some (.cells #[.int .i64 arg.kind, .int .i64 arg.n, .string arg.s] 33 (0, 0)) := by
    rw [heap_alloc_old _ _ (by go_size), heap_alloc_old _ _ (by simp), heap_alloc_new]
  have r1 : (((w.alloc (.cells #[.int .i64 arg.kind, .int .i64 arg.n, .string arg.s] 33)).alloc (.cells #[.int .i64 f.kind, .int .i64 f.n, .string f.s] 33)).alloc (.cells #[.int .i64 g.kind, .int .i64 g.n, .string g.s] 33)).heap[w.heap.size + 1]? = some (.cells #[.int .i64 f.kind, .int .i64 f.n, .string f.s] 33 (0, 0)) := by
    rw [heap_alloc_old _ _ (by go_size)]
    have := heap_alloc_new (w.alloc (.cells #[.int .i64 arg.kind, .int .i64 arg.n, .string arg.s] 33)) (.cells #[.int .i64 f.kind, .int .i64 f.n, .string f.s] 33)
    rwa [show (w.alloc (.cells #[.int .i64 arg.kind, .int .i64 arg.n, .string arg.s] 33)).heap.size = w.heap.size + 1 by simp] at this
  have r2 := heap_alloc_new ((w.alloc (.cells #[.int .i64 arg.kind, .int .i64 arg.n, .string arg.s] 33)).alloc (.cells #[.int .i64 f.kind, .int .i64 f.n, .string f.s] 33)) (.cells #[.int .i64 g.kind, .int .i64 g.n, .string g.s] 33)
  rw [show ((w.alloc (.cells #[.int .i64 arg.kind, .int .i64 arg.n, .string arg.s] 33)).alloc (.cells #[.int .i64 f.kind, .int .i64 f.n, .string f.s] 33)).heap.size = w.heap.size + 2 by simp] at r2
  have hsz : (((w.alloc (.cells #[.int .i64 arg.kind, .int .i64 arg.n, .string arg.s] 33)).alloc (.cells #[.int .i64 f.kind, .int .i64 f.n, .string f.s] 33)).alloc (.cells #[.int .i64 g.kind, .int .i64 g.n, .string g.s] 33)).heap.size = w.heap.size + 3 := by simp
  have H := hid (h.below hbW)
  have BW := hid hbW
  unfold ptr VD.agg
  clear hbW
  cases k
  all_goals
    go_enter Try.func71, Try.ntmps71
    go_upto_region 1 with fail
    generalize (((w.alloc (.cells #[.int .i64 arg.kind, .int .i64 arg.n, .string arg.s] 33)).alloc (.cells #[.int .i64 f.kind, .int .i64 f.n, .string f.s] 33)).alloc (.cells #[.int .i64 g.kind, .int .i64 g.n, .string g.s] 33)) = W at H BW r0 r1 r2 hsz ⊢
    have a0 := (cell_of_row _ _ 0 _ _ _ r0).trans (b := some (Value.int .i64 arg.kind)) rfl
    have a1 := (cell_of_row _ _ 1 _ _ _ r0).trans (b := some (Value.int .i64 arg.n)) rfl
    have a2 := (cell_of_row _ _ 2 _ _ _ r0).trans (b := some (Value.string arg.s)) rfl
    have f0 := (cell_of_row _ _ 0 _ _ _ r1).trans (b := some (Value.int .i64 f.kind)) rfl
    have f1 := (cell_of_row _ _ 1 _ _ _ r1).trans (b := some (Value.int .i64 f.n)) rfl
    have f2 := (cell_of_row _ _ 2 _ _ _ r1).trans (b := some (Value.string f.s)) rfl
    have g0 := (cell_of_row _ _ 0 _ _ _ r2).trans (b := some (Value.int .i64 g.kind)) rfl
    have g1 := (cell_of_row _ _ 1 _ _ _ r2).trans (b := some (Value.int .i64 g.n)) rfl
    have g2 := (cell_of_row _ _ 2 _ _ _ r2).trans (b := some (Value.string g.s)) rfl
    have hw0 : w.heap.size < W.heap.size := by omega
    have hw1 : w.heap.size + 1 < W.heap.size := by omega
    have hw2 : w.heap.size + 2 < W.heap.size := by omega
    clear r0 r1 r2 hsz
    go_upto_region 4 with fail
  · have hb2 := (Below.refl W.heap.size W).alloc (Nat.le_refl _) (.cells #[.int .i64 g.kind, .int .i64 g.n, .string g.s] 33)
    obtain ⟨n0, n1, n2⟩ := val_cells W (.int .i64 g.kind) (.int .i64 g.n) (.string g.s)
    have b0 := carry hb2 hw0 a0
    have b1 := carry hb2 hw0 a1
    have b2 := carry hb2 hw0 a2
    generalize (W.alloc (.cells #[.int .i64 g.kind, .int .i64 g.n, .string g.s] 33)) = W2 at hb2 n0 n1 n2 b0 b1 b2 ⊢
    go_still_tail 10, (by kernel_rfl)
    change wpList _ _ _ _ _ W2.drew
    go_wp2_with fail
    refine (put_c (H.out.below hb2.drew) ⟨g, arg, child, false⟩ hn).mono ?_
    rintro e w2 ⟨rfl, hN⟩
    have HN := hid (Next1.pre BW.out (Next1.pre hb2.drew hN))
    clear hN
    go_wp2_with fail
    exact bodyPost_end (results_none rfl _ _ _) rfl ⟨rfl, HN.out⟩
  · have hb2 := (Below.refl W.heap.size W).alloc (Nat.le_refl _) (.cells #[.int .i64 f.kind, .int .i64 f.n, .string f.s] 33)
    obtain ⟨n0, n1, n2⟩ := val_cells W (.int .i64 f.kind) (.int .i64 f.n) (.string f.s)
    have b0 := carry hb2 hw0 a0
    have b1 := carry hb2 hw0 a1
    have b2 := carry hb2 hw0 a2
    generalize (W.alloc (.cells #[.int .i64 f.kind, .int .i64 f.n, .string f.s] 33)) = W2 at hb2 n0 n1 n2 b0 b1 b2 ⊢
    go_still_tail 10, (by kernel_rfl)
    change wpList _ _ _ _ _ W2.drew
    go_wp2_with fail
    refine (put_c (H.out.below hb2.drew) ⟨f, arg, child, true⟩ hn).mono ?_
    rintro e w2 ⟨rfl, hN⟩
    have HN := hid (Next1.pre BW.out (Next1.pre hb2.drew hN))
    clear hN
    go_wp2_with fail
    exact bodyPost_end (results_none rfl _ _ _) rfl ⟨rfl, HN.out⟩
end
end Go.Proofs.Ytdgpblhmfkpblaa.Pg
