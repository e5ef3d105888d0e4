/- Wait of one that does not wait; Then. -/
import Derived.Test.YtdgpblhmfkpblaaSt13
namespace Go.Proofs.Ytdgpblhmfkpblaa.Pg
open Go.RowKit

section
variable {B B' : Bd} {w w' : World} {G G' : SG} {P P' : PS} {D D' : FD}
set_option maxHeartbeats 1600000 in
set_option maxRecDepth 100000 in
theorem wait_kept (h : St1 B w D G P) {p : Int} (hp1 : 1 ≤ p) (hp2 : p ≤ 1000000) {c : CD} (hc : P.cells[(p - 1).toNat]? = some c) (ha : c.a ≠ 0) {v : VD} {r : List VD} (hv : c.vals = v :: r) (hj : P.jobs.length ≤ 100000) (f g : VD) (child : Int) :
    Calls Try.prog 35 #[ptr G.at_, .int .i64 p, f.agg, g.agg, .int .i64 child] w fun e w' => e = .returned (.tuple #[]) ∧ Next1 B w D G w' { P with jobs := P.jobs ++ [⟨if (c.a == 1) = true then f else g, v, child, c.a == 1⟩] } := by
  have HA := hid ha
  have HV := hid hv
  clear ha hv
  have hbW : Below w.heap.size w ((w.alloc (.cells #[.int .i64 f.kind, .int .i64 f.n, .string f.s] 33)).alloc (.cells #[.int .i64 g.kind, .int .i64 g.n, .string g.s] 33)) := ((Below.refl _ _).alloc (Nat.le_refl _) _).alloc (by go_size) _
  have r0 : ((w.alloc (.cells #[.int .i64 f.kind, .int .i64 f.n, .string f.s] 33)).alloc (.cells #[.int .i64 g.kind, .int .i64 g.n, .string g.s] 33)).heap[w.heap.size]? = some (.cells #[.int .i64 f.kind, .int .i64 f.n, .string f.s] 33 (0, 0)) := by
    rw [heap_alloc_old _ _ (by go_size), heap_alloc_new]
  have r1 := heap_alloc_new (w.alloc (.cells #[.int .i64 f.kind, .int .i64 f.n, .string f.s] 33)) (.cells #[.int .i64 g.kind, .int .i64 g.n, .string g.s] 33)
  rw [show (w.alloc (.cells #[.int .i64 f.kind, .int .i64 f.n, .string f.s] 33)).heap.size = w.heap.size + 1 by go_size] at r1
  have hsz : ((w.alloc (.cells #[.int .i64 f.kind, .int .i64 f.n, .string f.s] 33)).alloc (.cells #[.int .i64 g.kind, .int .i64 g.n, .string g.s] 33)).heap.size = w.heap.size + 2 := by go_size
  have H := hid (h.below hbW)
  have BW := hid hbW
  unfold ptr VD.agg
  clear hbW
  go_enter Try.func35, Try.ntmps35
  go_upto_region 1 with fail
  generalize ((w.alloc (.cells #[.int .i64 f.kind, .int .i64 f.n, .string f.s] 33)).alloc (.cells #[.int .i64 g.kind, .int .i64 g.n, .string g.s] 33)) = W at H BW r0 r1 hsz ⊢
  have c0 := H.out.ok.c (k := 0) (u := ptr G.hp) rfl
  unfold ptr at c0
  go_wp2_with fail
  refine (H.out.h.load H.out.le H.out.hp H.out.cells hp1 hp2 hc).mono ?_
  rintro e w1 ⟨A1, n1, p1, A2, n2, p2, rfl, hb1, hr1⟩
  obtain ⟨hn2, _, hget⟩ := hr1.v.get
  obtain ⟨bv, ov, rfl, _, hcv⟩ := hget 0 v.row (by rw [HV.out]; rfl)
  rw [List.length_map] at hn2
  subst hn2
  have x0 := hcv 0 _ rfl
  have x1 := hcv 1 _ rfl
  have x2 := hcv 2 _ rfl
  simp only [Nat.zero_mul, Nat.add_zero] at x0 x1 x2
  have hbC := (Below.refl w1.heap.size w1).alloc (Nat.le_refl _) (.cells #[.int .i64 c.kind, .int .i64 c.a, .int .i64 c.b, .slice A1 n1 p1, .slice (some ⟨bv, ov, none⟩) c.vals.length p2] 47)
  have hs1 := hb1.size
  have rC := heap_alloc_new w1 (.cells #[.int .i64 c.kind, .int .i64 c.a, .int .i64 c.b, .slice A1 n1 p1, .slice (some ⟨bv, ov, none⟩) c.vals.length p2] 47)
  have hb2 := hb1.trans (hbC.mono hs1)
  have r0' := (hb2.block _ (by omega)).trans r0
  have r1' := (hb2.block _ (by omega)).trans r1
  have x0' := carry hbC (block_lt_of_cell x0) x0
  have x1' := carry hbC (block_lt_of_cell x0) x1
  have x2' := carry hbC (block_lt_of_cell x0) x2
  have HB2 := hid hb2
  have H2 := hid (H.out.below hb2)
  clear hb1 hs1 hr1 hbC hb2 r0 r1 c0 hcv hget x0 x1 x2
  go_upto_region 3 with fail
  generalize (w1.alloc (.cells #[.int .i64 c.kind, .int .i64 c.a, .int .i64 c.b, .slice A1 n1 p1, .slice (some ⟨bv, ov, none⟩) c.vals.length p2] 47)) = W2 at HB2 H2 rC r0' r1' x0' x1' x2' ⊢
  have y0 := (cell_of_row _ _ 0 _ _ _ rC).trans (b := some (Value.int .i64 c.kind)) rfl
  have y1 := (cell_of_row _ _ 1 _ _ _ rC).trans (b := some (Value.int .i64 c.a)) rfl
  have y2 := (cell_of_row _ _ 2 _ _ _ rC).trans (b := some (Value.int .i64 c.b)) rfl
  have y3 := (cell_of_row _ _ 3 _ _ _ rC).trans (b := some (Value.slice A1 n1 p1)) rfl
  have y4 := (cell_of_row _ _ 4 _ _ _ rC).trans (b := some (Value.slice (some ⟨bv, ov, none⟩) c.vals.length p2)) rfl
  have f0 := (cell_of_row _ _ 0 _ _ _ r0').trans (b := some (Value.int .i64 f.kind)) rfl
  have f1 := (cell_of_row _ _ 1 _ _ _ r0').trans (b := some (Value.int .i64 f.n)) rfl
  have f2 := (cell_of_row _ _ 2 _ _ _ r0').trans (b := some (Value.string f.s)) rfl
  have g0 := (cell_of_row _ _ 0 _ _ _ r1').trans (b := some (Value.int .i64 g.kind)) rfl
  have g1 := (cell_of_row _ _ 1 _ _ _ r1').trans (b := some (Value.int .i64 g.n)) rfl
  have g2 := (cell_of_row _ _ 2 _ _ _ r1').trans (b := some (Value.string g.s)) rfl
  have e1 : (c.a == 0) = false := by rw [beq_eq_false_iff_ne]; exact HA.out
  have hl : (0 : Int) < (c.vals.length : Nat) := by rw [HV.out]; simp only [List.length_cons]; omega
  have e2 : decide ((0 : Int) < (c.vals.length : Nat)) = true := by simp; omega
  clear rC r0' r1' hsz
  go_upto_region 8 with fail
  generalize hkk : (c.a == 1) = kk
  cases kk
  · go_still_tail 11, (by kernel_rfl)
    change wpList _ _ _ _ _ W2.drew
    go_wp2_with fail
    refine (job_c (H2.out.below (Below.refl _ _).drew) false v f g child hj).mono ?_
    rintro e w7 ⟨rfl, hN⟩
    have HN := hid (Next1.pre BW.out (Next1.pre HB2.out (Next1.pre (Below.refl _ _).drew hN)))
    clear hN
    go_wp2_with fail
    exact bodyPost_end (results_none rfl _ _ _) rfl ⟨rfl, HN.out⟩
  · go_still_tail 11, (by kernel_rfl)
    change wpList _ _ _ _ _ W2.drew
    go_wp2_with fail
    refine (job_c (H2.out.below (Below.refl _ _).drew) true v f g child hj).mono ?_
    rintro e w7 ⟨rfl, hN⟩
    have HN := hid (Next1.pre BW.out (Next1.pre HB2.out (Next1.pre (Below.refl _ _).drew hN)))
    clear hN
    go_wp2_with fail
    exact bodyPost_end (results_none rfl _ _ _) rfl ⟨rfl, HN.out⟩
set_option maxHeartbeats 800000 in
set_option maxRecDepth 100000 in
theorem then_of (h : St1 B w D G P) (hn : P.cells.length < 4096) (p : Int) (f g : VD) {Q : PS → Prop}
    (hW : ∀ B1 w1 D1 G1, St1 B1 w1 D1 G1 { P with cells := P.cells ++ [promC] } → Calls Try.prog 35 #[ptr G1.at_, .int .i64 p, f.agg, g.agg, .int .i64 ((P.cells.length : Nat) + 1)] w1 fun e w' => e = .returned (.tuple #[]) ∧ ∃ P', Q P' ∧ Next1 B1 w1 D1 G1 w' P') :
    Calls Try.prog 36 #[ptr G.at_, .int .i64 p, f.agg, g.agg] w fun e w' => e = .returned (.tuple #[.int .i64 ((P.cells.length : Nat) + 1), .int .i64 0]) ∧ ∃ P', Q P' ∧ Next1 B w D G w' P' := by
  have HW := hid hW
  have hbW : Below w.heap.size w ((w.alloc (.cells #[.int .i64 f.kind, .int .i64 f.n, .string f.s] 33)).alloc (.cells #[.int .i64 g.kind, .int .i64 g.n, .string g.s] 33)) := ((Below.refl _ _).alloc (Nat.le_refl _) _).alloc (by go_size) _
  have r0 : ((w.alloc (.cells #[.int .i64 f.kind, .int .i64 f.n, .string f.s] 33)).alloc (.cells #[.int .i64 g.kind, .int .i64 g.n, .string g.s] 33)).heap[w.heap.size]? = some (.cells #[.int .i64 f.kind, .int .i64 f.n, .string f.s] 33 (0, 0)) := by
    rw [heap_alloc_old _ _ (by go_size), heap_alloc_new]
  have r1 := heap_alloc_new (w.alloc (.cells #[.int .i64 f.kind, .int .i64 f.n, .string f.s] 33)) (.cells #[.int .i64 g.kind, .int .i64 g.n, .string g.s] 33)
  rw [show (w.alloc (.cells #[.int .i64 f.kind, .int .i64 f.n, .string f.s] 33)).heap.size = w.heap.size + 1 by go_size] at r1
  have hsz : ((w.alloc (.cells #[.int .i64 f.kind, .int .i64 f.n, .string f.s] 33)).alloc (.cells #[.int .i64 g.kind, .int .i64 g.n, .string g.s] 33)).heap.size = w.heap.size + 2 := by go_size
  have H := hid (h.below hbW)
  have BW := hid hbW
  have H0 := hid h
  unfold ptr VD.agg
  clear hbW hW h
  go_enter Try.func36, Try.ntmps36
  go_upto_region 1 with fail
  generalize ((w.alloc (.cells #[.int .i64 f.kind, .int .i64 f.n, .string f.s] 33)).alloc (.cells #[.int .i64 g.kind, .int .i64 g.n, .string g.s] 33)) = W at H BW r0 r1 hsz ⊢
  go_wp2_with fail
  refine (make_c H.out hn).mono ?_
  rintro e w1 ⟨rfl, B1, D1, G1, hS, hM⟩
  have hnf : ∀ x, w.heap.size ≤ x → ¬ Foot D x ∧ ¬ SFoot G x := fun x hx => ⟨fun hf => by have := (H0.out.h.fam.foot_lt hf).1; omega, fun hf => by have := (H0.out.ok.foot_lt hf).1; omega⟩
  have r0' := (hM.keep _ (by omega) (hnf _ (Nat.le_refl _)).1 (hnf _ (Nat.le_refl _)).2).trans r0
  have r1' := (hM.keep _ (by omega) (hnf _ (Nat.le_succ _)).1 (hnf _ (Nat.le_succ _)).2).trans r1
  have f0 := (cell_of_row _ _ 0 _ _ _ r0').trans (b := some (Value.int .i64 f.kind)) rfl
  have f1 := (cell_of_row _ _ 1 _ _ _ r0').trans (b := some (Value.int .i64 f.n)) rfl
  have f2 := (cell_of_row _ _ 2 _ _ _ r0').trans (b := some (Value.string f.s)) rfl
  have g0 := (cell_of_row _ _ 0 _ _ _ r1').trans (b := some (Value.int .i64 g.kind)) rfl
  have g1 := (cell_of_row _ _ 1 _ _ _ r1').trans (b := some (Value.int .i64 g.n)) rfl
  have g2 := (cell_of_row _ _ 2 _ _ _ r1').trans (b := some (Value.string g.s)) rfl
  have HM := hid ((SMv.below D G BW.out).trans hM)
  have ea : G1.at_ = G.at_ := hM.at_
  have HS := hid hS
  clear r0' r1' r0 r1 hM hS hnf hsz
  go_wp2_with fail
  have hw := HW.out _ _ _ _ HS.out
  rw [ea] at hw
  refine hw.mono ?_
  rintro e w2 ⟨rfl, P', hQ, B2, D2, G2, hS2, hM2⟩
  have HQ := hid hQ
  have HN := hid (show Next1 B w D G w2 P' from ⟨B2, D2, G2, hS2, HM.out.trans hM2⟩)
  clear hQ hS2 hM2 hw
  go_wp2_with fail
  go_ret2
  exact ⟨rfl, P', HQ.out, HN.out⟩
end
end Go.Proofs.Ytdgpblhmfkpblaa.Pg
